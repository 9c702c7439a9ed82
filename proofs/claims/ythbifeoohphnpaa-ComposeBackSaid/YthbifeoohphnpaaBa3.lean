/-
  Texts on which the laws of this seat rest, part 3 of 11.
-/
import Derived.Test.YthbifeoohphnpaaBa2
/-
  Package nodes: a key laid into the table, a key looked for.
-/
namespace Go.Proofs.Ythbifeoohphnpaa
set_option linter.unusedVariables false
open Go.RowKit
/-- a store's cells -/
abbrev StoV (room o : Nat) (nv fv : Value) (t sl ca : Nat) (off : Bool) : Array Value :=
  #[.int .i64 (room : Int), .pointer (some ⟨o, 0, none⟩), nv, fv, .pointer (some ⟨t, 0, none⟩), .map (some sl), .pointer (some ⟨ca, 0, none⟩), .bool off]
abbrev SlotMap (w : World) (sl : Nat) (f : Nat → Option Nat) : Prop := MapI 3 31 .i64 .u32 w sl f
/-- a table of keys with its slots' handles, in memory -/
structure TabMem (w : World) (t m c sl : Nat) (xs : List Nat) (f : Nat → Option Nat) (L : List (Nat × Nat)) : Prop where
  ut : UtAt w t m c xs
  mp : SlotMap w sl f
  ok : TabOk xs f L
  hs : ∀ p ∈ L, p.1 < 65536
  ne : sl ≠ t ∧ sl ≠ m ∧ sl ≠ c
theorem TabMem.fr {w w' : World} {t m c sl : Nat} {xs S : List Nat} {f : Nat → Option Nat} {L : List (Nat × Nat)} (h : TabMem w t m c sl xs f L) (hf : Fr S w w') (ht : t ∉ S) (hm : m ∉ S) (hc : c ∉ S) (hsl : sl ∉ S) : TabMem w' t m c sl xs f L :=
  ⟨h.ut.fr hf ht hm hc, h.mp.fr hf hsl, h.ok, h.hs, h.ne⟩
theorem zeroHandle (w : World) : (zeroValue 31).run Try.prog w = .ok (.int .u32 0) w := by kernel_rfl
theorem wf_i64n {x : Nat} (h : x < 4294967296) : (Lit.int .i64 (x : Int)).wf = true := WalkArith.wf_i64 (by omega)
theorem wf_u32n {x : Nat} (h : x < 4294967296) : (Lit.int .u32 (x : Int)).wf = true := by simp [Lit.wf, IntKind.min, IntKind.max, IntKind.signed, IntKind.bits]; omega
set_option maxRecDepth 100000 in
set_option maxHeartbeats 2000000 in
theorem lays_any (s t m c sl room o ca : Nat) (nv fv : Value) (off : Bool) (xs : List Nat) (f : Nat → Option Nat) (L : List (Nat × Nat)) (hd l a b : Nat) (w : World)
    (hs : Blk w s 83 (StoV room o nv fv t sl ca off)) (ht : TabMem w t m c sl xs f L) (hne : s ≠ m ∧ s ≠ c ∧ s ≠ sl) (hl : l < 256) (ha : a < 65536) (hb : b < 65536) (hab : a ≠ b) (hhd : hd < 65536) (hn : Ut.key l a b ∉ L.map Prod.snd) (hr : L.length < xs.length) :
    Calls Try.prog 72 #[.pointer (some ⟨s, 0, none⟩), .int .u32 (hd : Int), .agg #[.bool true, .int .i64 (l : Int), .int .u32 (a : Int), .int .u32 (b : Int)]] w fun e w' => e = .returned (.tuple #[]) ∧
      (∃ xs' f', xs'.length = xs.length ∧ TabMem w' t m c sl xs' f' ((hd, Ut.key l a b) :: L)) ∧ Fr [m, c, sl] w w' := by
  have hk := Ut.key_pos (l := l) hab
  have hk2 := Ut.key_lt hl (show a < 268435456 by omega) (show b < 268435456 by omega)
  obtain ⟨d, q, hp, hq, hok⟩ := ht.ok.lay hd hk hn hr
  have hql := (List.getElem?_eq_some_iff.1 hq).1
  have hxl := ht.ut.len
  have HK := Bx.mk fun u => key_any l a b u hl (show a < 268435456 by omega) (show b < 268435456 by omega)
  have hkey := fun u (hf : Fr [] w u) => finds_empty s t m c (Ut.key l a b) d q xs u ((hs.fr hf (by simp)).cell 4) (ht.ut.fr hf (by simp) (by simp) (by simp)) hk hk2 hp hq
  have HF := Bx.mk hkey
  have HT := Bx.mk ht
  have HS := Bx.mk hs
  have HOK := Bx.mk hok
  have HQ := Bx.mk hql
  have HN := Bx.mk hn
  have HX := Bx.mk hxl
  clear hkey ht hs hok hp hq hk hk2 hn hr hql hxl
  generalize Ut.key l a b = key at *
  go_enter Try.func72, Try.ntmps72
  go_wp2_with fail
  refine (HK.out _).mono ?_
  rintro e w1 ⟨rfl, rfl⟩
  have hf0 : Fr [] w (w.alloc (.cells #[.bool true, .int .i64 (l : Int), .int .u32 (a : Int), .int .u32 (b : Int)] 107)) := (Fr.refl _ _).alloc _
  go_wp2_with fail
  refine (HF.out _ hf0).mono ?_
  rintro e w2 ⟨rfl, hu, hf⟩
  have hf2 : Fr [m, c] w w2 := (hf0.mono (S' := [m, c]) (by simp)).trans hf (fun _ h _ => h)
  have hs2 := HS.out.fr hf2 (by simp; omega)
  have hmp2 := HT.out.mp.fr hf2 (by simp; exact ⟨HT.out.ne.2.1, HT.out.ne.2.2⟩)
  have hq6 : q < 1000000 := by have := HQ.out; have := HX.out; omega
  obtain ⟨w3, hr, hm3, hf3, hsz3⟩ := hmp2.run_set Try.underlying80 Try.underlying3 Try.underlying31 q hd (by omega) (wf_i64n (by omega)) (wf_u32n (by omega))
  have c5 := hs2.cell 5
  have HE : Bx (TabMem w3 t m c sl (xs.set q key) (fun y => if y = q then some hd else f y) ((hd, key) :: L) ∧ Fr [m, c, sl] w w3) := ⟨⟨hu.fr hf3 (by simp; exact fun e => HT.out.ne.1 e.symm) (by simp; exact fun e => HT.out.ne.2.1 e.symm) (by simp; exact fun e => HT.out.ne.2.2 e.symm), hm3, HOK.out, fun p hp => by
    rcases List.mem_cons.1 hp with rfl | hp
    · exact hhd
    · exact HT.out.hs p hp, HT.out.ne⟩, (hf2.mono (S' := [m, c, sl]) (by simp)).trans hf3 (by simp)⟩
  clear hu hf hf0 hf2 hs2 hmp2 hm3 hf3 hsz3 hq6
  go_wp2_with fail
  go_end0
  exact ⟨rfl, ⟨_, _, List.length_set, HE.out.1⟩, HE.out.2⟩
/-- what a look-up finds -/
def HasIs (L : List (Nat × Nat)) (key : Nat) (e : Ending) : Prop :=
  (∃ hd, (hd, key) ∈ L ∧ e = .returned (.tuple #[.int .u32 (hd : Int), .bool true])) ∨ (key ∉ L.map Prod.snd ∧ e = .returned (.tuple #[.int .u32 0, .bool false]))
set_option maxRecDepth 100000 in
set_option maxHeartbeats 2000000 in
theorem has_any (s t m c sl room o ca : Nat) (nv fv : Value) (off : Bool) (xs : List Nat) (f : Nat → Option Nat) (L : List (Nat × Nat)) (key : Nat) (w : World)
    (hs : Blk w s 83 (StoV room o nv fv t sl ca off)) (ht : TabMem w t m c sl xs f L) (hne : s ≠ m ∧ s ≠ c ∧ s ≠ sl) (hk : key ≠ 0) (hk2 : key < 18446744073709551616) (hr : L.length < xs.length) :
    Calls Try.prog 89 #[.pointer (some ⟨s, 0, none⟩), .int .u64 (key : Int)] w fun e w' => HasIs L key e ∧ TabMem w' t m c sl xs f L ∧ Fr [m] w w' := by
  obtain ⟨d, q, hp, hq⟩ := ht.ok.look key hk hr
  have hxl := ht.ut.len
  obtain ⟨n, hn⟩ : ∃ n, xs.length = n := ⟨_, rfl⟩
  have hd := hp.lt
  have hat := hp.at_
  rw [hn] at hd hat hxl
  have HSL := Bx.mk fun u (h : TabMem u t m c sl xs f L) => slots_any t m n u (hn ▸ h.ut.tab)
  have HAT := Bx.mk fun u i x (h : TabMem u t m c sl xs f L) (hx : xs[i]? = some x) => tabat_any t m c i x xs u h.ut hx
  have HH := Bx.mk fun u => home_nat key n u hk2 hxl.1 hxl.2
  have HQ := Bx.mk hq
  have HP := Bx.mk (hn ▸ hp.way : ∀ i, i < d → ∃ x, xs[(Ut.home key n + i) % n]? = some x ∧ x ≠ key ∧ x ≠ 0)
  have HA := Bx.mk hat
  have HD := Bx.mk hd
  have HK := Bx.mk hk
  have HX := Bx.mk hxl.2
  have HL := Bx.mk (Ut.home_lt (x := key) hxl.1)
  have hn0 := hxl.1
  have HT0 := Bx.mk ht
  have HS0 := Bx.mk hs
  have c4 := hs.cell 4
  clear hk2 hq hp hat hd hk hxl hn hr hs
  generalize Ut.home key n = h0 at *
  go_enter Try.func89, Try.ntmps89
  go_wp2_with fail
  refine (HSL.out _ HT0.out).mono ?_
  rintro e w1 ⟨rfl, rfl⟩
  go_wp2_with fail
  go_loopw [15] (fun i wr => ∃ j : Nat, j ≤ d ∧ i = .int .i64 (j : Int) ∧ TabMem wr t m c sl xs f L ∧ Fr [m] w1 wr) (fun i _ => d - (intOf i).toNat)
  case atStart => exact ⟨0, Nat.zero_le _, rfl, HT0.out, Fr.refl _ _⟩
  case round =>
    obtain ⟨j, hj, rfl, ht, hf⟩ := hrel
    have HT := Bx.mk ht
    have HF := Bx.mk hf
    clear ht hf c4
    have hs2 := HS0.out.fr HF.out (by simp; exact hne.1)
    have c4 := hs2.cell 4
    have c5 := hs2.cell 5
    have q0 : (j : Int) < (n : Int) := by have := HD.out; omega
    go_wp2_with fail
    refine (HH.out _).mono ?_
    rintro e wx ⟨rfl, rfl⟩
    have q2 : ¬ n = 0 := by omega
    have q2' : ¬ (n : Int) = 0 := by omega
    have q3 : (0 : Int) ≤ (h0 : Int) + (j : Int) := by omega
    have q3' : (h0 : Int) + (j : Int) ≤ 2000000 := by have := HL.out; have := HX.out; omega
    have q3'' : (1 : Int) ≤ (n : Int) := by omega
    have e1 : ((h0 : Int) + (j : Int)) % (n : Int) = (((h0 + j) % n : Nat) : Int) := rfl
    have e1t : ((h0 : Int) + (j : Int)).tmod (n : Int) = (((h0 + j) % n : Nat) : Int) := Int.tmod_eq_emod_of_nonneg (by omega)
    obtain ⟨r, hr⟩ : ∃ r, Bx ((h0 + j) % n = r) := ⟨_, ⟨rfl⟩⟩
    rw [hr.out] at e1 e1t
    go_wp2_with fail
    clear c4 c5 e1 e1t q2 q2' q3 q3' q3''
    by_cases hjd : j < d
    · obtain ⟨x, hx, hxk, hx0⟩ := HP.out j hjd
      rw [hr.out] at hx
      refine (HAT.out _ r x HT.out hx).mono ?_
      rintro e w2 ⟨rfl, hu2, hf2⟩
      have HT2 : Bx (TabMem w2 t m c sl xs f L) := ⟨⟨hu2, HT.out.mp.fr hf2 (by simp; exact HT.out.ne.2.1), HT.out.ok, HT.out.hs, HT.out.ne⟩⟩
      have HF2 := Bx.mk (HF.out.trans hf2 (fun _ h _ => h))
      have c5 := (hs2.fr hf2 (by simp; exact hne.1)).cell 5
      clear hu2 hf2 HT HF hs2
      have k0 : ((x : Int) == (key : Int)) = false := by rw [beq_eq_false_iff_ne]; omega
      have k1 : ((x : Int) == 0) = false := by rw [beq_eq_false_iff_ne]; omega
      have hj6 : j < 1000000 := by have := HD.out; have := HX.out; omega
      clear hx
      go_wp2_with fail
      exact ⟨⟨j + 1, hjd, by go_num, HT2.out, HF2.out⟩, by simp [intOf]; omega⟩
    · have hjd2 : j = d := by omega
      subst hjd2
      have hrq : r = q := by rw [← hr.out, HA.out]
      subst hrq
      rcases HQ.out with ⟨hd, hm, hx, hfq⟩ | ⟨hm, hx⟩
      · have HM := Bx.mk hm
        have HFQ := Bx.mk hfq
        clear hm hfq
        refine (HAT.out _ r key HT.out hx).mono ?_
        rintro e w2 ⟨rfl, hu2, hf2⟩
        have HT2 : Bx (TabMem w2 t m c sl xs f L) := ⟨⟨hu2, HT.out.mp.fr hf2 (by simp; exact HT.out.ne.2.1), HT.out.ok, HT.out.hs, HT.out.ne⟩⟩
        have HF2 := Bx.mk (HF.out.trans hf2 (fun _ h _ => h))
        have c5 := (hs2.fr hf2 (by simp; exact hne.1)).cell 5
        clear hu2 hf2 HT HF hs2
        have hrl : r < n := by rw [← hr.out]; exact Nat.mod_lt _ (by omega)
        have hr6 : r < 1000000 := by have := HX.out; omega
        have hget := HT2.out.mp.run_get Try.underlying80 Try.underlying3 Try.underlying31 (zeroHandle _) HFQ.out (wf_i64n (by omega))
        clear hx hrl hr6
        go_wp2_with fail
        go_ret2
        exact ⟨.inl ⟨hd, HM.out, rfl⟩, HT2.out, HF2.out⟩
      · have HM := Bx.mk hm
        clear hm
        refine (HAT.out _ r 0 HT.out hx).mono ?_
        rintro e w2 ⟨rfl, hu2, hf2⟩
        have HT2 : Bx (TabMem w2 t m c sl xs f L) := ⟨⟨hu2, HT.out.mp.fr hf2 (by simp; exact HT.out.ne.2.1), HT.out.ok, HT.out.hs, HT.out.ne⟩⟩
        have HF2 := Bx.mk (HF.out.trans hf2 (fun _ h _ => h))
        have c5 := (hs2.fr hf2 (by simp; exact hne.1)).cell 5
        clear hu2 hf2 HT HF hs2
        have k1 : ((0 : Int) == (key : Int)) = false := by rw [beq_eq_false_iff_ne]; have := HK.out; omega
        have k2 : ((key : Int) == 0) = false := by rw [beq_eq_false_iff_ne]; have := HK.out; omega
        clear hx
        go_wp2_with fail
        go_ret2
        exact ⟨.inr ⟨HM.out, rfl⟩, HT2.out, HF2.out⟩
end Go.Proofs.Ythbifeoohphnpaa

/-
  Package nodes: results that are kept: told, laid.
-/
namespace Go.Proofs.Ythbifeoohphnpaa
set_option linter.unusedVariables false
open Go.RowKit
/-- an operation's word -/
def Ca.word (op mask a b c : Nat) : Nat := op * 72057594037927936 + mask * 281474976710656 + a * 4294967296 + b * 65536 + c
theorem Ca.word_lt {op mask a b c : Nat} (h0 : op < 256) (h1 : mask < 256) (h2 : a < 65536) (h3 : b < 65536) (h4 : c < 65536) : Ca.word op mask a b c < 18446744073709551616 := by unfold Ca.word; omega
theorem Ca.word_inj {op mask a b c op' mask' a' b' c' : Nat} (h0 : op < 256) (h1 : mask < 256) (h2 : a < 65536) (h3 : b < 65536) (h4 : c < 65536) (g0 : op' < 256) (g1 : mask' < 256) (g2 : a' < 65536) (g3 : b' < 65536) (g4 : c' < 65536)
    (h : Ca.word op mask a b c = Ca.word op' mask' a' b' c') : op = op' ∧ mask = mask' ∧ a = a' ∧ b = b' ∧ c = c' := by unfold Ca.word at h; omega
theorem Ca.word_walk {op mask a b c : Nat} (h0 : op < 256) (h1 : mask < 256) (h2 : a < 65536) (h3 : b < 65536) (h4 : c < 65536) :
    bits .or .u64 (bits .or .u64 (bits .or .u64 (bits .or .u64 ((op : Int) * 72057594037927936) ((mask : Int) * 281474976710656)) ((a : Int) * 4294967296)) ((b : Int) * 65536)) (c : Int) = (Ca.word op mask a b c : Int) := by
  have e1 := Bt.or_sum op (mask * 281474976710656) 56 (by omega) (by omega)
  have e2 := Bt.or_sum (op * 256 + mask) (a * 4294967296) 48 (by omega) (by omega)
  have e3 := Bt.or_sum ((op * 256 + mask) * 65536 + a) (b * 65536) 32 (by omega) (by omega)
  have e4 := Bt.or_sum (((op * 256 + mask) * 65536 + a) * 65536 + b) c 16 (by omega) (by omega)
  rw [show ((op : Int) * 72057594037927936) = ((2 ^ 56 * op : Nat) : Int) from by omega, show ((mask : Int) * 281474976710656) = ((mask * 281474976710656 : Nat) : Int) from by omega,
    show ((a : Int) * 4294967296) = ((a * 4294967296 : Nat) : Int) from by omega, show ((b : Int) * 65536) = ((b * 65536 : Nat) : Int) from by omega]
  rw [e1, show (2 ^ 56 * op + mask * 281474976710656 : Nat) = 2 ^ 48 * (op * 256 + mask) from by omega, e2, show (2 ^ 48 * (op * 256 + mask) + a * 4294967296 : Nat) = 2 ^ 32 * ((op * 256 + mask) * 65536 + a) from by omega, e3,
    show (2 ^ 32 * ((op * 256 + mask) * 65536 + a) + b * 65536 : Nat) = 2 ^ 16 * (((op * 256 + mask) * 65536 + a) * 65536 + b) from by omega, e4]
  unfold Ca.word
  omega
theorem word_any (op mask a b c : Nat) (w : World) (h0 : op < 256) (h1 : mask < 256) (h2 : a < 65536) (h3 : b < 65536) (h4 : c < 65536) :
    Calls Try.prog 121 #[.int .u8 (op : Int), .int .u8 (mask : Int), .int .u32 (a : Int), .int .u32 (b : Int), .int .u32 (c : Int)] w fun e w' => e = .returned (.int .u64 (Ca.word op mask a b c : Int)) ∧ w' = w := by
  have HW := Bx.mk (Ca.word_walk h0 h1 h2 h3 h4)
  have q0 : (op : Int) < 256 := by omega
  have q1 : (mask : Int) < 256 := by omega
  have q2 : (a : Int) < 65536 := by omega
  have q3 : (b : Int) < 65536 := by omega
  have q4 : (c : Int) < 65536 := by omega
  have p0 : 0 ≤ (op : Int) := by omega
  have p1 : 0 ≤ (mask : Int) := by omega
  have p2 : 0 ≤ (a : Int) := by omega
  have p3 : 0 ≤ (b : Int) := by omega
  have p4 : 0 ≤ (c : Int) := by omega
  go_enter Try.func121, Try.ntmps121
  go_wp2_with fail
  go_ret
  exact ⟨congrArg (fun n => Ending.returned (.int .u64 n)) HW.out, rfl⟩
theorem and3 (v : Nat) (h : v < 18446744073709551616) : bits .and .u64 (v : Int) 3 = ((v % 4 : Nat) : Int) := by
  have e := bits_and_u64_nat v 3 h (by omega)
  have e2 := Nat.and_two_pow_sub_one_eq_mod v 2
  rw [show (2 : Nat) ^ 2 - 1 = 3 from rfl] at e2
  rw [e2] at e
  exact e
theorem and1 (v : Nat) (h : v < 18446744073709551616) : bits .and .u64 (v : Int) 1 = ((v % 2 : Nat) : Int) := by
  have e := bits_and_u64_nat v 1 h (by omega)
  have e2 := Nat.and_two_pow_sub_one_eq_mod v 1
  rw [show (2 : Nat) ^ 1 - 1 = 1 from rfl] at e2
  rw [e2] at e
  exact e
/-- lines of a cache that nobody is writing -/
structure CaOk (ys : List Nat) : Prop where
  len : ys.length = 768
  ver : ∀ i v, i < 256 → ys[3 * i]? = some v → v % 2 = 0 ∧ v < 18446744073709551616
  val : ∀ i x, i < 256 → ys[3 * i + 2]? = some x → x < 65536
/-- what a key's line holds -/
def Ca.got (ys : List Nat) (key : Nat) : Option Nat :=
  match ys[Ca.line key]?, ys[Ca.line key + 1]?, ys[Ca.line key + 2]? with
  | some v, some k, some x => if v % 4 = 2 ∧ k = key then some x else none
  | _, _, _ => none
/-- a cache in memory -/
structure CacAt (w : World) (ca cm cc : Nat) (ys : List Nat) : Prop where
  hd : Blk w ca 128 (CacV cm)
  mem : MemAt w cm cc ys
  ne : ca ≠ cm ∧ ca ≠ cc
  ok : CaOk ys
theorem CacAt.fr {w w' : World} {ca cm cc : Nat} {ys S : List Nat} (h : CacAt w ca cm cc ys) (hf : Fr S w w') (ht : ca ∉ S) (hm : cm ∉ S) (hc : cc ∉ S) : CacAt w' ca cm cc ys := ⟨h.hd.fr hf ht, h.mem.fr hf hm hc, h.ne, h.ok⟩
/-- what Recall answers -/
def RecallIs (o : Option Nat) (e : Ending) : Prop := e = .returned (.tuple #[.int .u32 ((o.getD 0 : Nat) : Int), .bool o.isSome])
theorem CaOk.line {ys : List Nat} (h : CaOk ys) (key : Nat) : ∃ v k x, ys[Ca.line key]? = some v ∧ ys[Ca.line key + 1]? = some k ∧ ys[Ca.line key + 2]? = some x ∧ v % 2 = 0 ∧ v < 18446744073709551616 ∧ x < 65536 := by
  have hl := Ca.line_lt key
  have hlen := h.len
  have hh := Ut.home_lt (x := key) (show 0 < 256 by omega)
  refine ⟨_, _, _, List.getElem?_eq_getElem (by omega), List.getElem?_eq_getElem (by omega), List.getElem?_eq_getElem (by omega), ?_⟩
  have h1 := h.ver (Ut.home key 256) _ hh (List.getElem?_eq_getElem (show 3 * Ut.home key 256 < ys.length from by unfold Ca.line at hl; omega))
  have h2 := h.val (Ut.home key 256) _ hh (List.getElem?_eq_getElem (show 3 * Ut.home key 256 + 2 < ys.length from by unfold Ca.line at hl; omega))
  exact ⟨h1.1, h1.2, h2⟩
end Go.Proofs.Ythbifeoohphnpaa

/-
  Package nodes: Recall, Note.
-/
namespace Go.Proofs.Ythbifeoohphnpaa
set_option linter.unusedVariables false
open Go.RowKit
set_option maxRecDepth 100000 in
set_option maxHeartbeats 4000000 in
theorem recall_any (s room o t sl ca cm cc op mask a b c : Nat) (nv fv : Value) (ys : List Nat) (w : World)
    (hs : Blk w s 83 (StoV room o nv fv t sl ca false)) (hc : CacAt w ca cm cc ys) (hne : s ≠ cm) (h0 : op < 256) (h1 : mask < 256) (h2 : a < 65536) (h3 : b < 65536) (h4 : c < 65536) :
    Calls Try.prog 114 #[.pointer (some ⟨s, 0, none⟩), .int .u8 (op : Int), .int .u8 (mask : Int), .int .u32 (a : Int), .int .u32 (b : Int), .int .u32 (c : Int)] w fun e w' => RecallIs (Ca.got ys (Ca.word op mask a b c)) e ∧ CacAt w' ca cm cc ys ∧ Fr [cm] w w' := by
  have hk := Ca.word_lt h0 h1 h2 h3 h4
  have HW := Bx.mk fun u => word_any op mask a b c u h0 h1 h2 h3 h4
  obtain ⟨v, k, x, hv, hk1, hx, hv2, hv64, hx16⟩ := hc.ok.line (Ca.word op mask a b c)
  have hll := Ca.line_lt (Ca.word op mask a b c)
  have hgot : Ca.got ys (Ca.word op mask a b c) = if v % 4 = 2 ∧ k = Ca.word op mask a b c then some x else none := by unfold Ca.got; rw [hv, hk1, hx]
  generalize Ca.word op mask a b c = key at *
  generalize Ca.got ys key = G at hgot ⊢
  have HGOT := Bx.mk hgot
  have hget := get_any ca cm key
  have HC := Bx.mk hc
  have HG := Bx.mk fun u (hf : Fr [] w u) => get_any ca cm key u (hc.hd.fr hf (by simp)) hk
  have HV := Bx.mk hv
  have HK := Bx.mk hk1
  have HX := Bx.mk hx
  have HA := Bx.mk (and3 v hv64)
  have HX16 := Bx.mk hx16
  have HLL := Bx.mk (show Ca.line key < 100000 by omega)
  have hcm : ca < w.heap.size ∧ cm < w.heap.size ∧ cc < w.heap.size := by
    obtain ⟨_, _, hb⟩ := hc.mem.hd
    exact ⟨hc.hd.lt, hb.lt, hc.mem.row.lt⟩
  obtain ⟨c0, c1, c2, c3, c4, c5, c6, c7⟩ := cells8 hs
  clear hgot hget hc hk hv hk1 hx hv2 hv64 hx16 hll hs
  generalize Ca.line key = ln at *
  go_enter Try.func114, Try.ntmps114
  go_wp2_with fail
  refine wp_region_still_tail 10 (by kernel_rfl) (by kernel_rfl) ?_
  simp only [List.take_succ_cons, List.take_zero, List.drop_succ_cons, List.drop_zero]
  repeat still_step
  still_call (HW.out _)
  refine wpStill_nil ?_
  go_wp2_with fail
  refine (HG.out _ (Fr.refl _ _).drew).mono ?_
  rintro e w1 ⟨rfl, hb, hf, hsz⟩
  have hfw : Fr [cm] w w1 := ((Fr.refl [cm] w).drew).trans hf (by simp)
  obtain ⟨b0, hb0⟩ : ∃ b0, b0 = w.drew.heap.size := ⟨_, rfl⟩
  have hbw : w.heap.size ≤ b0 := by rw [hb0]; exact Nat.le_refl _
  rw [← hb0] at hb hsz ⊢
  have hnb : b0 ≠ cm ∧ b0 ≠ cc := by omega
  have HB := Bx.mk hb
  have HF := Bx.mk hfw
  have hm1 : MemAt w1 cm cc ys := HC.out.mem.fr (hf := ((Fr.refl [] w).drew).trans hf (by simp)) (by simp) (by simp)
  have HM := Bx.mk hm1
  clear hb hf hfw hm1 hb0 HG HW c0 c1 c2 c3 c4 c5 c6 c7
  go_wp2_with fail
  refine wp_loop_rounds 5 ?_
  rw [rounds_succ]
  have hst := astep_any b0 cm ln key 0 0 0 127 false w1 HB.out _ (((v % 4 : Nat) : Int) != 2) (fun _ _ => rfl) (looks_any b0 cm cc ln key 0 0 0 v (v % 4) _ false ys w1 HB.out HM.out hnb HV.out HA.out) (fun w' h => h.1.cell 6)
  by_cases hq : v % 4 = 2
  · have hd : (((v % 4 : Nat) : Int) != 2) = false := by rw [hq]; rfl
    rw [hd] at hst
    have HS := Bx.mk hst
    clear hst hd
    go_wp2_with fail
    refine HS.out.mono ?_
    rintro e w2 ⟨rfl, hb, hm, hf⟩
    have HB2 := Bx.mk hb
    have HM2 := Bx.mk hm
    have HF2 : Bx (Fr [cm] w w2) := ⟨HF.out.trans hf (fun y hy hl => by simp at hy ⊢; omega)⟩
    clear hb hm hf HS HB HM HF
    go_wp2_with fail
    rw [rounds_succ]
    by_cases hkk : k = key
    · have HG : Bx (G = some x) := ⟨by rw [HGOT.out, if_pos ⟨hq, hkk⟩]⟩
      have HS := Bx.mk (astep_any b0 cm ln key 0 v 0 129 false w2 HB2.out _ false (fun _ _ => rfl) (compares_any b0 cm cc ln key 0 v 0 k _ false ys w2 HB2.out HM2.out hnb HLL.out HK.out false (by simp [hkk])) (fun w' h => h.1.cell 6))
      go_wp2_with fail
      refine HS.out.mono ?_
      rintro e w3 ⟨rfl, hb, hm, hf⟩
      have HB3 := Bx.mk hb
      have HM3 := Bx.mk hm
      have HF3 : Bx (Fr [cm] w w3) := ⟨HF2.out.trans hf (fun y hy hl => by simp at hy ⊢; omega)⟩
      clear hb hm hf HS HB2 HM2 HF2
      go_wp2_with fail
      rw [rounds_succ]
      have HS := Bx.mk (astep_any b0 cm ln key 0 v 0 131 false w3 HB3.out _ false (fun _ _ => rfl) (reads_any b0 cm cc ln key 0 v 0 x _ false ys w3 HB3.out HM3.out hnb HLL.out HX.out) (fun w' h => h.1.cell 6))
      go_wp2_with fail
      refine HS.out.mono ?_
      rintro e w4 ⟨rfl, hb, hm, hf⟩
      have HB4 := Bx.mk hb
      have HM4 := Bx.mk hm
      have HF4 : Bx (Fr [cm] w w4) := ⟨HF3.out.trans hf (fun y hy hl => by simp at hy ⊢; omega)⟩
      clear hb hm hf HS HB3 HM3 HF3
      go_wp2_with fail
      rw [rounds_succ]
      have HS := Bx.mk (astep_any b0 cm ln key 0 v x 133 false w4 HB4.out _ true (fun _ _ => rfl) (trusts_any b0 cm cc ln key 0 v x v _ false ys w4 HB4.out HM4.out hnb HV.out true (by simp)) (fun w' h => h.1.cell 6))
      go_wp2_with fail
      refine HS.out.mono ?_
      rintro e w5 ⟨rfl, hb, hm, hf⟩
      have HB5 := Bx.mk hb
      have HM5 := Bx.mk hm
      have HF5 : Bx (Fr [cm] w w5) := ⟨HF4.out.trans hf (fun y hy hl => by simp at hy ⊢; omega)⟩
      clear hb hm hf HS HB4 HM4 HF4
      go_wp2_with fail
      refine (got_yes b0 cm ln key 0 v x _ _ HB5.out).mono ?_
      rintro e wz ⟨rfl, rfl⟩
      have HE : Bx (CacAt wz ca cm cc ys ∧ Fr [cm] w wz) := ⟨⟨HC.out.hd.fr HF5.out (by simp; exact HC.out.ne.1), HM5.out, HC.out.ne, HC.out.ok⟩, HF5.out⟩
      clear HB5 HM5 HF5
      have x0 : (0 : Int) ≤ (x : Int) := by omega
      have x1 : (x : Int) < 65536 := by have := HX16.out; omega
      go_wp2_with fail
      go_ret2
      exact ⟨by unfold RecallIs; rw [HG.out]; rfl, HE.out⟩
    · have HG : Bx (G = none) := ⟨by rw [HGOT.out, if_neg (fun h => hkk h.2)]⟩
      have HS := Bx.mk (astep_any b0 cm ln key 0 v 0 129 false w2 HB2.out _ true (fun _ _ => rfl) (compares_any b0 cm cc ln key 0 v 0 k _ false ys w2 HB2.out HM2.out hnb HLL.out HK.out true (by simp [hkk])) (fun w' h => h.1.cell 6))
      go_wp2_with fail
      refine HS.out.mono ?_
      rintro e w3 ⟨rfl, hb, hm, hf⟩
      have HB3 := Bx.mk hb
      have HM3 := Bx.mk hm
      have HF3 : Bx (Fr [cm] w w3) := ⟨HF2.out.trans hf (fun y hy hl => by simp at hy ⊢; omega)⟩
      clear hb hm hf HS HB2 HM2 HF2
      go_wp2_with fail
      refine (got_no b0 cm ln key 0 v 0 _ _ HB3.out).mono ?_
      rintro e wz ⟨rfl, rfl⟩
      have HE : Bx (CacAt wz ca cm cc ys ∧ Fr [cm] w wz) := ⟨⟨HC.out.hd.fr HF3.out (by simp; exact HC.out.ne.1), HM3.out, HC.out.ne, HC.out.ok⟩, HF3.out⟩
      clear HB3 HM3 HF3
      go_wp2_with fail
      go_ret2
      exact ⟨by unfold RecallIs; rw [HG.out]; rfl, HE.out⟩
  · have HG : Bx (G = none) := ⟨by rw [HGOT.out, if_neg (fun h => hq h.1)]⟩
    have hd : (((v % 4 : Nat) : Int) != 2) = true := by rw [bne_iff_ne]; omega
    rw [hd] at hst
    have HS := Bx.mk hst
    clear hst hd
    go_wp2_with fail
    refine HS.out.mono ?_
    rintro e w2 ⟨rfl, hb, hm, hf⟩
    have HB2 := Bx.mk hb
    have HM2 := Bx.mk hm
    have HF2 : Bx (Fr [cm] w w2) := ⟨HF.out.trans hf (fun y hy hl => by simp at hy ⊢; omega)⟩
    clear hb hm hf HS HB HM HF
    go_wp2_with fail
    refine (got_no b0 cm ln key 0 v 0 _ _ HB2.out).mono ?_
    rintro e wz ⟨rfl, rfl⟩
    have HE : Bx (CacAt wz ca cm cc ys ∧ Fr [cm] w wz) := ⟨⟨HC.out.hd.fr HF2.out (by simp; exact HC.out.ne.1), HM2.out, HC.out.ne, HC.out.ok⟩, HF2.out⟩
    clear HB2 HM2 HF2
    go_wp2_with fail
    go_ret2
    exact ⟨by unfold RecallIs; rw [HG.out]; rfl, HE.out⟩
end Go.Proofs.Ythbifeoohphnpaa

/-
  Package nodes: Note: a result is kept.
-/
namespace Go.Proofs.Ythbifeoohphnpaa
set_option linter.unusedVariables false
open Go.RowKit
theorem recall_off (s room o t sl ca op mask a b c : Nat) (nv fv : Value) (w : World) (hs : Blk w s 83 (StoV room o nv fv t sl ca true)) :
    Calls Try.prog 114 #[.pointer (some ⟨s, 0, none⟩), .int .u8 (op : Int), .int .u8 (mask : Int), .int .u32 (a : Int), .int .u32 (b : Int), .int .u32 (c : Int)] w fun e w' => RecallIs none e ∧ w' = w := by
  obtain ⟨c0, c1, c2, c3, c4, c5, c6, c7⟩ := cells8 hs
  go_enter Try.func114, Try.ntmps114
  go_wp2_with fail
  go_ret2
  exact ⟨rfl, rfl⟩
theorem note_off (s room o t sl ca op mask a b c r : Nat) (nv fv : Value) (w : World) (hs : Blk w s 83 (StoV room o nv fv t sl ca true)) :
    Calls Try.prog 116 #[.pointer (some ⟨s, 0, none⟩), .int .u8 (op : Int), .int .u8 (mask : Int), .int .u32 (a : Int), .int .u32 (b : Int), .int .u32 (c : Int), .int .u32 (r : Int)] w fun e w' => e = .returned (.tuple #[]) ∧ w' = w := by
  obtain ⟨c0, c1, c2, c3, c4, c5, c6, c7⟩ := cells8 hs
  go_enter Try.func116, Try.ntmps116
  go_wp2_with fail
  refine bodyPost_ret (results_none rfl _ _ _) rfl ?_
  exact ⟨rfl, rfl⟩
/-- a line's next version -/
def Ca.next (v : Nat) : Nat := ((v ||| 2) + 4) % 18446744073709551616
theorem Ca.or2 (v : Nat) (h : v < 18446744073709551616) : bits .or .u64 (v : Int) 2 = ((v ||| 2 : Nat) : Int) := bits_or_u64_nat v 2 h (by omega)
theorem Ca.or1 (v : Nat) (h : v < 18446744073709551616) : bits .or .u64 (v : Int) 1 = ((v ||| 1 : Nat) : Int) := bits_or_u64_nat v 1 h (by omega)
theorem Ca.next_wrap (v : Nat) : IntKind.u64.wrap (((v ||| 2 : Nat) : Int) + 4) = (Ca.next v : Int) := by rw [IntKind.wrap_u64]; unfold Ca.next; omega
theorem Ca.next_even {v : Nat} (h : v % 2 = 0) : Ca.next v % 2 = 0 ∧ Ca.next v < 18446744073709551616 := by
  have e := Nat.or_mod_two_pow (a := v) (b := 2) (n := 1)
  have e2 : (v ||| 2) % 2 = 0 := by rw [show (2 : Nat) ^ 1 = 2 from rfl] at e; rw [e, h]; rfl
  unfold Ca.next
  omega
/-- a line written -/
def Ca.put (ys : List Nat) (key val : Nat) : List Nat :=
  ((((ys.set (Ca.line key) (ys.getD (Ca.line key) 0 ||| 1)).set (Ca.line key + 1) key).set (Ca.line key + 2) val).set (Ca.line key) (Ca.next (ys.getD (Ca.line key) 0)))
theorem Ca.put_get (ys : List Nat) (key val j : Nat) : (Ca.put ys key val)[j]? = if j < ys.length then (if j = Ca.line key then some (Ca.next (ys.getD (Ca.line key) 0)) else if j = Ca.line key + 1 then some key else if j = Ca.line key + 2 then some val else ys[j]?) else none := by
  unfold Ca.put
  simp only [List.getElem?_set, List.length_set]
  by_cases hj : j < ys.length
  · rw [if_pos hj]
    by_cases h0 : j = Ca.line key
    · rw [if_pos h0.symm, if_pos (h0 ▸ hj), if_pos h0]
    · rw [if_neg (fun e => h0 e.symm), if_neg h0]
      by_cases h2 : j = Ca.line key + 2
      · have h1 : ¬ j = Ca.line key + 1 := by omega
        rw [if_pos h2.symm, if_pos (h2 ▸ hj), if_neg h1, if_pos h2]
      · rw [if_neg (fun e => h2 e.symm)]
        by_cases h1 : j = Ca.line key + 1
        · rw [if_pos h1.symm, if_pos (h1 ▸ hj), if_pos h1]
        · rw [if_neg (fun e => h1 e.symm), if_neg (fun e => h0 e.symm), if_neg h1, if_neg h2]
  · rw [if_neg hj]
    have hn : ys[j]? = none := List.getElem?_eq_none (by omega)
    have h0 : Ca.line key = j → ¬ Ca.line key < ys.length := fun e => by omega
    by_cases e0 : Ca.line key = j
    · rw [if_pos e0, if_neg (h0 e0)]
    · rw [if_neg e0]
      by_cases e2 : Ca.line key + 2 = j
      · rw [if_pos e2, if_neg (by omega)]
      · rw [if_neg e2]
        by_cases e1 : Ca.line key + 1 = j
        · rw [if_pos e1, if_neg (by omega)]
        · rw [if_neg e1, if_neg e0, hn]
theorem Ca.put_ok {ys : List Nat} {key val : Nat} (h : CaOk ys) (hv : val < 65536) : CaOk (Ca.put ys key val) := by
  have hh := Ut.home_lt (x := key) (show 0 < 256 by omega)
  refine ⟨by unfold Ca.put; simp [h.len], fun i v hi hx => ?_, fun i x hi hx => ?_⟩
  · rw [Ca.put_get, if_pos (by rw [h.len]; omega)] at hx
    split at hx
    · rename_i e
      obtain rfl := Option.some.inj hx
      have hl : Ca.line key < ys.length := by have := Ca.line_lt key; rw [h.len]; omega
      have hg : ys[Ca.line key]? = some (ys.getD (Ca.line key) 0) := by rw [List.getD_eq_getElem?_getD, List.getElem?_eq_getElem hl]; rfl
      exact Ca.next_even (h.ver (Ut.home key 256) _ hh hg).1
    · split at hx
      · rename_i e; unfold Ca.line at e; omega
      · split at hx
        · rename_i e; unfold Ca.line at e; omega
        · exact h.ver i v hi hx
  · rw [Ca.put_get, if_pos (by rw [h.len]; omega)] at hx
    split at hx
    · rename_i e; unfold Ca.line at e; omega
    · split at hx
      · rename_i e; unfold Ca.line at e; omega
      · split at hx
        · obtain rfl := Option.some.inj hx; exact hv
        · exact h.val i x hi hx
/-- what a written line gives -/
theorem Ca.got_put {ys : List Nat} {key val key' x : Nat} (h : CaOk ys) (hg : Ca.got (Ca.put ys key val) key' = some x) : (key' = key ∧ x = val) ∨ Ca.got ys key' = some x := by
  have hl := Ca.line_lt key
  have hl' := Ca.line_lt key'
  have hlen := h.len
  by_cases e : Ca.line key' = Ca.line key
  · left
    have g0 : (Ca.put ys key val)[Ca.line key]? = some (Ca.next (ys.getD (Ca.line key) 0)) := by rw [Ca.put_get, if_pos (by omega), if_pos rfl]
    have g1 : (Ca.put ys key val)[Ca.line key + 1]? = some key := by rw [Ca.put_get, if_pos (by omega), if_neg (by omega), if_pos rfl]
    have g2 : (Ca.put ys key val)[Ca.line key + 2]? = some val := by rw [Ca.put_get, if_pos (by omega), if_neg (by omega), if_neg (by omega), if_pos rfl]
    unfold Ca.got at hg
    rw [e, g0, g1, g2] at hg
    simp only at hg
    split at hg
    · rename_i hc
      exact ⟨hc.2.symm, (Option.some.inj hg).symm⟩
    · cases hg
  · right
    have e3 : Ca.line key' = 3 * Ut.home key' 256 := rfl
    have e4 : Ca.line key = 3 * Ut.home key 256 := rfl
    have hg2 : ∀ i, i < 3 → (Ca.put ys key val)[Ca.line key' + i]? = ys[Ca.line key' + i]? := fun i hi => by
      rw [Ca.put_get, if_pos (by omega), if_neg (by omega), if_neg (by omega), if_neg (by omega)]
    unfold Ca.got at hg ⊢
    have g0 := hg2 0 (by omega)
    rw [Nat.add_zero] at g0
    rw [g0, hg2 1 (by omega), hg2 2 (by omega)] at hg
    exact hg
set_option maxRecDepth 100000 in
set_option maxHeartbeats 4000000 in
theorem note_any (s room o t sl ca cm cc op mask a b c r : Nat) (nv fv : Value) (ys : List Nat) (w : World)
    (hs : Blk w s 83 (StoV room o nv fv t sl ca false)) (hc : CacAt w ca cm cc ys) (hne : s ≠ cm ∧ s ≠ cc) (h0 : op < 256) (h1 : mask < 256) (h2 : a < 65536) (h3 : b < 65536) (h4 : c < 65536) (hr : r < 65536) :
    Calls Try.prog 116 #[.pointer (some ⟨s, 0, none⟩), .int .u8 (op : Int), .int .u8 (mask : Int), .int .u32 (a : Int), .int .u32 (b : Int), .int .u32 (c : Int), .int .u32 (r : Int)] w fun e w' => e = .returned (.tuple #[]) ∧ CacAt w' ca cm cc (Ca.put ys (Ca.word op mask a b c) r) ∧ Fr [cm, cc] w w' := by
  have hk := Ca.word_lt h0 h1 h2 h3 h4
  have HW := Bx.mk fun u => word_any op mask a b c u h0 h1 h2 h3 h4
  obtain ⟨v, k, x, hv, hk1, hx, hv2, hv64, hx16⟩ := hc.ok.line (Ca.word op mask a b c)
  have hll := Ca.line_lt (Ca.word op mask a b c)
  have hok := Ca.put_ok (key := Ca.word op mask a b c) hc.ok hr
  have hput : Ca.put ys (Ca.word op mask a b c) r = ((((ys.set (Ca.line (Ca.word op mask a b c)) (v ||| 1)).set (Ca.line (Ca.word op mask a b c) + 1) (Ca.word op mask a b c)).set (Ca.line (Ca.word op mask a b c) + 2) r).set (Ca.line (Ca.word op mask a b c)) (Ca.next v)) := by
    have hgv : ys.getD (Ca.line (Ca.word op mask a b c)) 0 = v := by rw [List.getD_eq_getElem?_getD, hv]; rfl
    unfold Ca.put
    rw [hgv]
  have hlen := hc.ok.len
  generalize Ca.word op mask a b c = key at *
  have HP := Bx.mk hput
  have HOK := Bx.mk hok
  have HC := Bx.mk hc
  have HG := Bx.mk fun u (hf : Fr [] w u) => put_any ca cm key r u (hc.hd.fr hf (by simp)) hk
  have HV := Bx.mk hv
  have HK := Bx.mk hk1
  have HX := Bx.mk hx
  have HA := Bx.mk (hv2 ▸ and1 v hv64 : bits .and .u64 (v : Int) 1 = ((0 : Nat) : Int))
  have HO1 := Bx.mk (Ca.or1 v hv64)
  have HO2 := Bx.mk (Ca.or2 v hv64)
  have HN := Bx.mk (Ca.next_wrap v)
  have HLL := Bx.mk (show Ca.line key < 100000 by omega)
  have HL7 := Bx.mk (show Ca.line key + 2 < ys.length by omega)
  have hcm : ca < w.heap.size ∧ cm < w.heap.size ∧ cc < w.heap.size := by
    obtain ⟨_, _, hb⟩ := hc.mem.hd
    exact ⟨hc.hd.lt, hb.lt, hc.mem.row.lt⟩
  obtain ⟨c0, c1, c2, c3, c4, c5, c6, c7⟩ := cells8 hs
  have r0 : (0 : Int) ≤ (r : Int) := by omega
  have r1 : (r : Int) < 65536 := by omega
  clear hput hok hc hk hv hk1 hx hv2 hv64 hx16 hll hs hlen
  generalize Ca.line key = ln at *
  go_enter Try.func116, Try.ntmps116
  go_wp2_with fail
  refine wp_region_still_tail 12 (by kernel_rfl) (by kernel_rfl) ?_
  simp only [List.take_succ_cons, List.take_zero, List.drop_succ_cons, List.drop_zero]
  repeat still_step
  still_call (HW.out _)
  repeat still_step
  refine wpStill_nil ?_
  go_wp2_with fail
  refine (HG.out _ (Fr.refl _ _).drew).mono ?_
  rintro e w1 ⟨rfl, hb, hf, hsz⟩
  have hfw : Fr [cm, cc] w w1 := ((Fr.refl [cm, cc] w).drew).trans hf (by simp)
  obtain ⟨b0, hb0⟩ : ∃ b0, b0 = w.drew.heap.size := ⟨_, rfl⟩
  have hbw : w.heap.size ≤ b0 := by rw [hb0]; exact Nat.le_refl _
  rw [← hb0] at hb hsz ⊢
  have hnb : b0 ≠ cm ∧ b0 ≠ cc := by omega
  have HB1 := Bx.mk hb
  have HF1 := Bx.mk hfw
  have hm1 : MemAt w1 cm cc ys := HC.out.mem.fr (hf := ((Fr.refl [] w).drew).trans hf (by simp)) (by simp) (by simp)
  have HM1 := Bx.mk hm1
  clear hb hf hfw hm1 hb0 HG HW c0 c1 c2 c3 c4 c5 c6 c7 r0 r1
  go_wp2_with fail
  refine wp_loop_rounds 6 ?_
  rw [rounds_succ]
  have HS := Bx.mk (astep_any b0 cm ln key r 0 0 128 false w1 HB1.out _ false (fun _ _ => rfl) (opens_any b0 cm cc ln key r 0 0 v 0 _ false ys w1 HB1.out HM1.out hnb HV.out HA.out) (fun w' h => h.1.cell 6))
  go_wp2_with fail
  refine HS.out.mono ?_
  rintro e w2 ⟨rfl, hb, hm, hf⟩
  have HB2 := Bx.mk hb
  have HM2 := Bx.mk hm
  have HF2 : Bx (Fr [cm, cc] w w2) := ⟨HF1.out.trans hf (fun y hy hl => by simp at hy ⊢; omega)⟩
  clear hb hm hf HS HB1 HM1 HF1
  go_wp2_with fail
  rw [rounds_succ]
  have HS := Bx.mk (astep_any b0 cm ln key r v 0 130 false w2 HB2.out _ false (fun _ _ => rfl) (locks_any b0 cm cc ln key r v 0 (v ||| 1) _ false ys w2 HB2.out HM2.out hnb HV.out HO1.out) (fun w' h => h.1.cell 6))
  go_wp2_with fail
  refine HS.out.mono ?_
  rintro e w3 ⟨rfl, hb, hm, hf⟩
  have HB3 := Bx.mk hb
  have HM3 := Bx.mk hm
  have HF3 : Bx (Fr [cm, cc] w w3) := ⟨HF2.out.trans hf (fun y hy hl => by simp at hy ⊢; omega)⟩
  clear hb hm hf HS HB2 HM2 HF2
  go_wp2_with fail
  rw [rounds_succ]
  have HS := Bx.mk (astep_any b0 cm ln key r v 0 132 false w3 HB3.out _ false (fun _ _ => rfl) (keys_any b0 cm cc ln key r v 0 k _ false _ w3 HB3.out HM3.out hnb HLL.out (by rw [List.getElem?_set_ne (by omega)]; exact HK.out)) (fun w' h => h.1.cell 6))
  go_wp2_with fail
  refine HS.out.mono ?_
  rintro e w4 ⟨rfl, hb, hm, hf⟩
  have HB4 := Bx.mk hb
  have HM4 := Bx.mk hm
  have HF4 : Bx (Fr [cm, cc] w w4) := ⟨HF3.out.trans hf (fun y hy hl => by simp at hy ⊢; omega)⟩
  clear hb hm hf HS HB3 HM3 HF3
  go_wp2_with fail
  rw [rounds_succ]
  have HS := Bx.mk (astep_any b0 cm ln key r v 0 135 false w4 HB4.out _ false (fun _ _ => rfl) (vals_any b0 cm cc ln key r v 0 x _ false _ w4 HB4.out HM4.out hnb HLL.out (by rw [List.getElem?_set_ne (by omega), List.getElem?_set_ne (by omega)]; exact HX.out)) (fun w' h => h.1.cell 6))
  go_wp2_with fail
  refine HS.out.mono ?_
  rintro e w5 ⟨rfl, hb, hm, hf⟩
  have HB5 := Bx.mk hb
  have HM5 := Bx.mk hm
  have HF5 : Bx (Fr [cm, cc] w w5) := ⟨HF4.out.trans hf (fun y hy hl => by simp at hy ⊢; omega)⟩
  clear hb hm hf HS HB4 HM4 HF4
  go_wp2_with fail
  rw [rounds_succ]
  have HS := Bx.mk (astep_any b0 cm ln key r v 0 137 false w5 HB5.out _ true (fun _ _ => rfl) (again_any b0 cm cc ln key r v 0 (v ||| 1) (v ||| 2) (Ca.next v) _ false _ w5 HB5.out HM5.out hnb (by rw [List.getElem?_set_ne (by omega), List.getElem?_set_ne (by omega)]; exact List.getElem?_set_self (by have := HL7.out; omega)) HO2.out HN.out) (fun w' h => h.1.cell 6))
  go_wp2_with fail
  refine HS.out.mono ?_
  rintro e w6 ⟨rfl, hb, hm, hf⟩
  have HB6 := Bx.mk hb
  have HM6 := Bx.mk hm
  have HF6 : Bx (Fr [cm, cc] w w6) := ⟨HF5.out.trans hf (fun y hy hl => by simp at hy ⊢; omega)⟩
  clear hb hm hf HS HB5 HM5 HF5
  go_wp2_with fail
  have HE : Bx (CacAt w6 ca cm cc (Ca.put ys key r) ∧ Fr [cm, cc] w w6) := ⟨⟨HC.out.hd.fr HF6.out (by simp; exact HC.out.ne), by rw [HP.out]; exact HM6.out, HC.out.ne, HOK.out⟩, HF6.out⟩
  clear HB6 HM6 HF6
  go_wp2_with fail
  go_end0
  exact ⟨rfl, HE.out⟩
end Go.Proofs.Ythbifeoohphnpaa

/-
  A store: its plain state; how it lies in memory.
-/
namespace Go.Proofs.Ythbifeoohphnpaa
set_option linter.unusedVariables false
open Go.RowKit
/-- an inner node -/
structure Nd where
  l : Nat
  a : Nat
  b : Nat
deriving DecidableEq
/-- a store's state -/
structure Sto where
  room : Nat
  n : Nat
  vars : List Nat
  levels : List Nat
  nodes : List (Option Nd)
  free : List Nat
  off : Bool
namespace Sto
def get (S : Sto) (h : Nat) : Option Nd := if h < 2 then none else (S.nodes[h - 2]?).join
def is (S : Sto) (h : Nat) : Bool := decide (h < 2) || (S.get h).isSome
def lev (S : Sto) (h : Nat) : Int := if h < 2 then (S.n : Int) else match S.get h with | some nd => (nd.l : Int) | none => -1
def low (S : Sto) (h : Nat) : Nat := match S.get h with | some nd => nd.a | none => if h < 2 then h else 0
def high (S : Sto) (h : Nat) : Nat := match S.get h with | some nd => nd.b | none => if h < 2 then h else 0
def len (S : Sto) : Nat := S.nodes.length - S.free.length
def keyOf (S : Sto) (h : Nat) : Nat := match S.get h with | some nd => Ut.key nd.l nd.a nd.b | none => 0
end Sto
def ndCells : Option Nd → List Value
  | some nd => [.bool true, .int .i64 (nd.l : Int), .int .u32 (nd.a : Int), .int .u32 (nd.b : Int)]
  | none => [.bool false, .int .i64 0, .int .u32 0, .int .u32 0]
theorem ndCells_length (o : Option Nd) : (ndCells o).length = 4 := by cases o <;> rfl
def ndFlat (l : List (Option Nd)) : List Value := l.flatMap ndCells
theorem ndFlat_length (l : List (Option Nd)) : (ndFlat l).length = l.length * 4 := by
  unfold ndFlat; induction l with
  | nil => rfl
  | cons o l ih => rw [List.flatMap_cons, List.length_append, ih, ndCells_length, List.length_cons]; omega
theorem ndFlat_append (l l' : List (Option Nd)) : ndFlat (l ++ l') = ndFlat l ++ ndFlat l' := by unfold ndFlat; simp
theorem ndFlat_get : ∀ (l : List (Option Nd)) (i : Nat) (o : Option Nd) (j : Nat), l[i]? = some o → j < 4 → (ndFlat l)[4 * i + j]? = (ndCells o)[j]?
  | [], i, o, j, h, _ => by simp at h
  | p :: l, 0, o, j, h, hj => by
    simp at h; subst h
    show (ndCells p ++ ndFlat l)[4 * 0 + j]? = _
    rw [List.getElem?_append_left (by rw [ndCells_length]; omega), Nat.mul_zero, Nat.zero_add]
  | p :: l, i + 1, o, j, h, hj => by
    show (ndCells p ++ ndFlat l)[4 * (i + 1) + j]? = _
    rw [List.getElem?_append_right (by rw [ndCells_length]; omega), ndCells_length, show 4 * (i + 1) + j - 4 = 4 * i + j from by omega]
    exact ndFlat_get l i o j (by simpa using h) hj
/-- where a store lies -/
structure Bk where
  s : Nat
  o : Nat
  t : Nat
  m : Nat
  c : Nat
  sl : Nat
  ca : Nat
  cm : Nat
  cc : Nat
  nv : Value
  fv : Value
  xs : List Nat
  f : Nat → Option Nat
  ys : List Nat
def Bk.own (B : Bk) : List Nat := [B.s, B.o, B.t, B.m, B.c, B.sl, B.ca, B.cm, B.cc] ++ (B.nv.ownBlock.toList ++ B.fv.ownBlock.toList)
def ordV (S : Sto) : Array Value := ((Value.int .i64 (S.n : Int)) :: (S.vars.map (fun (x : Nat) => Value.int .i64 (x : Int)) ++ S.levels.map (fun (x : Nat) => Value.int .i64 (x : Int)))).toArray
/-- a store in memory; L: the handles that its table holds -/
structure StAt (w : World) (base : Nat) (B : Bk) (S : Sto) (L : List Nat) : Prop where
  hd : Blk w B.s 83 (StoV S.room B.o B.nv B.fv B.t B.sl B.ca S.off)
  ord : Blk w B.o 102 (ordV S)
  tab : TabMem w B.t B.m B.c B.sl B.xs B.f (L.map fun h => (h, S.keyOf h))
  cac : CacAt w B.ca B.cm B.cc B.ys
  nod : w.ownsRow base 107 4 B.nv S.nodes.length (ndFlat S.nodes)
  fre : w.ownsRow base 31 1 B.fv S.free.length (S.free.map fun (x : Nat) => Value.int .u32 (x : Int))
  nd : B.own.Nodup
  lo : ∀ b ∈ B.own, base ≤ b
  vl : S.vars.length = 8 ∧ S.levels.length = 8 ∧ S.n ≤ 8
  sz : S.nodes.length ≤ 40000
/-- a store's step: only its own blocks turn, new ones come -/
structure Stp (B : Bk) (w : World) (B' : Bk) (w' : World) : Prop where
  fr : Fr B.own w w'
  sub : ∀ b ∈ B'.own, b ∈ B.own ∨ w.heap.size ≤ b
  s : B'.s = B.s
theorem Stp.refl (B : Bk) (w : World) : Stp B w B w := ⟨Fr.refl _ _, fun b h => .inl h, rfl⟩
theorem Stp.drewN (B : Bk) (w : World) (n : Nat) : Stp B w B (w.drewN n) := ⟨(Fr.refl _ _).drewN n, fun b h => .inl h, rfl⟩
theorem Stp.trans {B B' B'' : Bk} {w w' w'' : World} (h : Stp B w B' w') (k : Stp B' w' B'' w'') : Stp B w B'' w'' :=
  ⟨h.fr.trans k.fr (fun b hb hl => (h.sub b hb).elim id fun h2 => absurd hl (by omega)), fun b hb => by
    rcases k.sub b hb with h1 | h1
    · exact h.sub b h1
    · exact .inr (Nat.le_trans h.fr.size h1), k.s.trans h.s⟩
section
variable {w w' : World} {base : Nat} {B : Bk} {S : Sto} {L : List Nat}
theorem ownBlock_lt {e : TypeId} {size n : Nat} {v : Value} {xs : List Value} (h : w.ownsRow base e size v n xs) : ∀ b ∈ v.ownBlock.toList, b < w.heap.size := fun b hb => by
  cases hv : v.ownBlock with
  | none => rw [hv] at hb; simp at hb
  | some g => rw [hv] at hb; simp at hb; subst hb; exact (h.lt b hv).2
theorem StAt.lt (h : StAt w base B S L) : ∀ b ∈ B.own, b < w.heap.size := by
  intro b hb
  unfold Bk.own at hb
  have h1 := h.hd.lt
  have h2 := h.ord.lt
  have h3 := h.tab.ut.tab.lt
  obtain ⟨_, _, h4⟩ := h.tab.ut.mem.hd
  have h4 := h4.lt
  have h5 := h.tab.ut.mem.row.lt
  have h6 := h.tab.mp.lt
  have h7 := h.cac.hd.lt
  obtain ⟨_, _, h8⟩ := h.cac.mem.hd
  have h8 := h8.lt
  have h9 := h.cac.mem.row.lt
  rcases List.mem_append.1 hb with hb | hb
  · simp only [List.mem_cons, List.not_mem_nil, or_false] at hb
    rcases hb with rfl | rfl | rfl | rfl | rfl | rfl | rfl | rfl | rfl <;> assumption
  · rcases List.mem_append.1 hb with hb | hb
    · exact ownBlock_lt h.nod b hb
    · exact ownBlock_lt h.fre b hb
theorem ownsRow_fr {e : TypeId} {size n : Nat} {v : Value} {xs : List Value} {F : List Nat} (h : w.ownsRow base e size v n xs) (hf : Fr F w w') (hn : ∀ b ∈ v.ownBlock.toList, b ∉ F) : w'.ownsRow base e size v n xs := by
  rcases h.2 with h0 | ⟨g, cap, cur, hv, hb, hg, hr⟩
  · exact ⟨h.1, .inl h0⟩
  · subst hv
    have hl : g < w.heap.size := by
      rcases Nat.lt_or_ge g w.heap.size with hlt | hge
      · exact hlt
      · rw [Array.getElem?_eq_none hge] at hg; cases hg
    exact ⟨h.1, .inr ⟨g, cap, cur, rfl, hb, (hf.block g hl (hn g (by simp [Value.ownBlock]))).trans hg, hr⟩⟩
/-- nothing of its own turns -/
theorem StAt.fr {F : List Nat} (h : StAt w base B S L) (hf : Fr F w w') (hn : ∀ b ∈ B.own, b ∉ F) : StAt w' base B S L := by
  have m9 : ∀ b ∈ [B.s, B.o, B.t, B.m, B.c, B.sl, B.ca, B.cm, B.cc], b ∉ F := fun b hb => hn b (List.mem_append.2 (.inl hb))
  exact ⟨h.hd.fr hf (m9 _ (by simp)), h.ord.fr hf (m9 _ (by simp)), h.tab.fr hf (m9 _ (by simp)) (m9 _ (by simp)) (m9 _ (by simp)) (m9 _ (by simp)), h.cac.fr hf (m9 _ (by simp)) (m9 _ (by simp)) (m9 _ (by simp)),
    ownsRow_fr h.nod hf (fun b hb => hn b (List.mem_append.2 (.inr (List.mem_append.2 (.inl hb))))), ownsRow_fr h.fre hf (fun b hb => hn b (List.mem_append.2 (.inr (List.mem_append.2 (.inr hb))))), h.nd, h.lo, h.vl, h.sz⟩
theorem StAt.drewN (h : StAt w base B S L) (n : Nat) : StAt (w.drewN n) base B S L := h.fr ((Fr.refl [] w).drewN n) (by simp)
end
end Go.Proofs.Ythbifeoohphnpaa

/-
  A store's readers.
-/
namespace Go.Proofs.Ythbifeoohphnpaa
set_option linter.unusedVariables false
open Go.RowKit
section
variable {w : World} {base : Nat} {B : Bk} {S : Sto} {L : List Nat}
/-- where a node lies -/
theorem StAt.at_ (h : StAt w base B S L) {i : Nat} {o : Option Nd} (hi : S.nodes[i]? = some o) : ∃ g cap, B.nv = .slice (some ⟨g, 0, none⟩) S.nodes.length cap ∧ g ∈ B.own ∧ w.frozen? ⟨g, i * 4, none⟩ = false ∧
    ∀ j v, (ndCells o)[j]? = some v → w.cell? ⟨g, i * 4 + j, none⟩ = some v := by
  have hl := (List.getElem?_eq_some_iff.1 hi).1
  rcases h.nod.2 with ⟨hv, h0⟩ | ⟨g, cap, cur, hv, hb, hg, hr⟩
  · omega
  · refine ⟨g, cap, hv, ?_, ?_, fun j v hj => ?_⟩
    · unfold Bk.own
      rw [hv]
      simp [Value.ownBlock]
    · have hn := h.nod
      rw [hv] at hn
      exact hn.frozenAt _
    · have hj4 : j < 4 := by have := (List.getElem?_eq_some_iff.1 hj).1; rw [ndCells_length] at this; exact this
      have hn := h.nod
      rw [hv] at hn
      have := hn.cells (g := g) rfl (4 * i + j) v (by rw [ndFlat_get _ _ _ _ hi hj4]; exact hj)
      rw [← this]
      simp only [Addr.add]
      split
      · congr 2; omega
      · congr 2; omega
end
theorem olen_any (o n : Nat) (S : Sto) (w : World) (h : Blk w o 102 (ordV S)) :
    Calls Try.prog 75 #[.pointer (some ⟨o, 0, none⟩)] w fun e w' => e = .returned (.int .i64 (S.n : Int)) ∧ w' = w := by
  have c0 : w.cell? ⟨o, 0, none⟩ = some (.int .i64 (S.n : Int)) := h.cell 0
  go_enter Try.func75, Try.ntmps75
  go_wp2_with fail
  go_ret
  exact ⟨rfl, rfl⟩
theorem vars_any (base : Nat) (B : Bk) (S : Sto) (L : List Nat) (w : World) (h : StAt w base B S L) :
    Calls Try.prog 46 #[.pointer (some ⟨B.s, 0, none⟩)] w fun e w' => e = .returned (.int .i64 (S.n : Int)) ∧ w' = w := by
  obtain ⟨c0, c1, c2, c3, c4, c5, c6, c7⟩ := cells8 h.hd
  have HO := Bx.mk (olen_any B.o 0 S w h.ord)
  clear h
  go_enter Try.func46, Try.ntmps46
  go_wp2_with fail
  refine HO.out.mono ?_
  rintro e w1 ⟨rfl, rfl⟩
  go_wp2_with fail
  go_ret
  exact ⟨rfl, rfl⟩
theorem room_any (base : Nat) (B : Bk) (S : Sto) (L : List Nat) (w : World) (h : StAt w base B S L) :
    Calls Try.prog 22 #[.pointer (some ⟨B.s, 0, none⟩)] w fun e w' => e = .returned (.int .i64 (S.room : Int)) ∧ w' = w := by
  obtain ⟨c0, c1, c2, c3, c4, c5, c6, c7⟩ := cells8 h.hd
  clear h
  go_enter Try.func22, Try.ntmps22
  go_wp2_with fail
  go_ret
  exact ⟨rfl, rfl⟩
theorem Sto.get_eq {S : Sto} {h : Nat} (h2 : 2 ≤ h) : S.get h = (S.nodes[h - 2]?).join := by unfold Sto.get; rw [if_neg (by omega)]
set_option maxRecDepth 100000 in
theorem at_yes (base : Nat) (B : Bk) (S : Sto) (L : List Nat) (w : World) (hs : StAt w base B S L) (h : Nat) (nd : Nd) (hh : S.get h = some nd) :
    Calls Try.prog 57 #[.pointer (some ⟨B.s, 0, none⟩), .int .u32 (h : Int)] w fun e w' => (∃ g, e = .returned (.pointer (some ⟨g, (h - 2) * 4, none⟩)) ∧ g ∈ B.own ∧ w.frozen? ⟨g, (h - 2) * 4, none⟩ = false ∧ ∀ j v, (ndCells (some nd))[j]? = some v → w.cell? ⟨g, (h - 2) * 4 + j, none⟩ = some v) ∧ w' = w := by
  have h2 : 2 ≤ h := by
    rcases Nat.lt_or_ge h 2 with h2 | h2
    · unfold Sto.get at hh; rw [if_pos h2] at hh; cases hh
    · exact h2
  rw [Sto.get_eq h2] at hh
  have hi : S.nodes[h - 2]? = some (some nd) := by
    cases hn : S.nodes[h - 2]? with
    | none => rw [hn] at hh; cases hh
    | some o => rw [hn] at hh; simp at hh; rw [hh]
  obtain ⟨g, cap, hv, hg, hz, hc⟩ := hs.at_ hi
  have hl := (List.getElem?_eq_some_iff.1 hi).1
  have hsz := hs.sz
  obtain ⟨c0, c1, c2, c3, c4, c5, c6, c7⟩ := cells8 hs.hd
  have n0 : w.cell? ⟨g, (h - 2) * 4, none⟩ = some (.bool true) := hc 0 _ rfl
  rw [hv] at c2
  have HC := Bx.mk hc
  have HV := Bx.mk hv
  obtain ⟨i, rfl⟩ : ∃ i, h = i + 2 := ⟨h - 2, by omega⟩
  rw [show i + 2 - 2 = i from by omega] at *
  have e1 : (((i + 2 : Nat) : Int)) - 2 = (i : Int) := by omega
  have q0 : ¬ (((i + 2 : Nat) : Int)) < 2 := by omega
  have q1 : (i : Int) < (S.nodes.length : Int) := by omega
  have q1' : ¬ (i : Int) ≥ (S.nodes.length : Int) := by omega
  have q2 : (0 : Int) ≤ (i : Int) := by omega
  clear hc hs hi hv hh
  generalize S.nodes.length = n at *
  go_enter Try.func57, Try.ntmps57
  go_wp2_with fail
  go_ret
  exact ⟨⟨g, rfl, hg, hz, HC.out⟩, rfl⟩
set_option maxRecDepth 100000 in
theorem at_no (base : Nat) (B : Bk) (S : Sto) (L : List Nat) (w : World) (hs : StAt w base B S L) (h : Nat) (h32 : h < 4294967296) (hh : S.get h = none) :
    Calls Try.prog 57 #[.pointer (some ⟨B.s, 0, none⟩), .int .u32 (h : Int)] w fun e w' => e = .returned (.pointer none) ∧ w' = w := by
  obtain ⟨c0, c1, c2, c3, c4, c5, c6, c7⟩ := cells8 hs.hd
  rcases Nat.lt_or_ge h 2 with h2 | h2
  · have q : (h : Int) < 2 := by omega
    have b0 : decide ((h : Int) < 2) = true := by simp; omega
    clear hs hh
    go_enter Try.func57, Try.ntmps57
    go_wp2_with fail
    go_ret
    exact ⟨rfl, rfl⟩
  · rw [Sto.get_eq h2] at hh
    have hsz := hs.sz
    obtain ⟨i, rfl⟩ : ∃ i, h = i + 2 := ⟨h - 2, by omega⟩
    rw [show i + 2 - 2 = i from by omega] at *
    have e1 : (((i + 2 : Nat) : Int)) - 2 = (i : Int) := by omega
    have q0 : ¬ (((i + 2 : Nat) : Int)) < 2 := by omega
    have q2 : (0 : Int) ≤ (i : Int) := by omega
    rcases Nat.lt_or_ge i S.nodes.length with hl | hl
    · have hi : S.nodes[i]? = some none := by
        cases hn : S.nodes[i]? with
        | none => rw [List.getElem?_eq_none_iff] at hn; omega
        | some o => rw [hn] at hh; simp at hh; rw [hh]
      obtain ⟨g, cap, hv, hg, hz, hc⟩ := hs.at_ hi
      have n0 : w.cell? ⟨g, i * 4, none⟩ = some (.bool false) := hc 0 _ rfl
      rw [hv] at c2
      have q1 : (i : Int) < (S.nodes.length : Int) := by omega
      have q1' : ¬ (i : Int) ≥ (S.nodes.length : Int) := by omega
      clear hc hs hi hv hh h2
      generalize S.nodes.length = n at *
      go_enter Try.func57, Try.ntmps57
      go_wp2_with fail
      go_ret
      exact ⟨rfl, rfl⟩
    · have hv : ∃ p cap, B.nv = .slice p S.nodes.length cap := by
        rcases hs.nod.2 with ⟨hv, h0⟩ | ⟨g, cap, cur, hv, _⟩
        · exact ⟨none, 0, by rw [hv, h0]⟩
        · exact ⟨_, _, hv⟩
      obtain ⟨p, cap, hv⟩ := hv
      rw [hv] at c2
      have q1 : (i : Int) ≥ (S.nodes.length : Int) := by omega
      have b1 : decide ((i : Int) ≥ (S.nodes.length : Int)) = true := by simp; omega
      clear hs hv hh h2
      generalize S.nodes.length = n at *
      have b2 : decide (n ≤ i) = true := by simp; omega
      go_enter Try.func57, Try.ntmps57
      go_wp2_with fail
      go_ret
      exact ⟨rfl, rfl⟩
theorem Bt.and_u32_nat' (a b : Nat) (ha : a < 4294967296) (hb : b < 4294967296) : bits .and .u32 (a : Int) (b : Int) = ((a &&& b : Nat) : Int) := Bt.and_u32_nat a b ha hb
set_option maxRecDepth 100000 in
theorem is_any (base : Nat) (B : Bk) (S : Sto) (L : List Nat) (w : World) (hs : StAt w base B S L) (h : Nat) (h32 : h < 4294967296) :
    Calls Try.prog 32 #[.pointer (some ⟨B.s, 0, none⟩), .int .u32 (h : Int)] w fun e w' => e = .returned (.bool (S.is h)) ∧ w' = w := by
  have HS := Bx.mk hs
  clear hs
  by_cases h2 : h < 2
  · have HV : Bx (S.is h = true) := ⟨by unfold Sto.is; simp [h2]⟩
    have q : (h : Int) ≤ 1 := by omega
    have b0 : decide ((h : Int) ≤ 1) = true := by simp; omega
    go_enter Try.func32, Try.ntmps32
    go_wp2_with fail
    go_ret
    rw [HV.out]
    exact ⟨rfl, rfl⟩
  · have q : ¬ (h : Int) ≤ 1 := by omega
    have b0 : decide ((h : Int) ≤ 1) = false := by simp; omega
    cases hg : S.get h with
    | some nd =>
      have HV : Bx (S.is h = true) := ⟨by unfold Sto.is; rw [hg]; simp⟩
      have HG := Bx.mk hg
      clear hg
      go_enter Try.func32, Try.ntmps32
      go_wp2_with fail
      refine (at_yes base B S L _ HS.out h nd HG.out).mono ?_
      rintro e w1 ⟨⟨g, rfl, _, _, hc⟩, rfl⟩
      clear hc
      go_wp2_with fail
      go_ret
      rw [HV.out]
      exact ⟨rfl, rfl⟩
    | none =>
      have HV : Bx (S.is h = false) := ⟨by unfold Sto.is; rw [hg]; simp [h2]⟩
      have HG := Bx.mk hg
      clear hg
      go_enter Try.func32, Try.ntmps32
      go_wp2_with fail
      refine (at_no base B S L _ HS.out h h32 HG.out).mono ?_
      rintro e w1 ⟨rfl, rfl⟩
      go_wp2_with fail
      go_ret
      rw [HV.out]
      exact ⟨rfl, rfl⟩
set_option maxRecDepth 100000 in
theorem level_any (base : Nat) (B : Bk) (S : Sto) (L : List Nat) (w : World) (hs : StAt w base B S L) (h : Nat) (h32 : h < 4294967296) :
    Calls Try.prog 21 #[.pointer (some ⟨B.s, 0, none⟩), .int .u32 (h : Int)] w fun e w' => e = .returned (.int .i64 (S.lev h)) ∧ w' = w := by
  have HS := Bx.mk hs
  clear hs
  by_cases h2 : h < 2
  · have HV : Bx (S.lev h = S.n) := ⟨by unfold Sto.lev; rw [if_pos h2]⟩
    have q : (h : Int) ≤ 1 := by omega
    go_enter Try.func21, Try.ntmps21
    go_wp2_with fail
    refine (vars_any base B S L _ HS.out).mono ?_
    rintro e w1 ⟨rfl, rfl⟩
    go_wp2_with fail
    go_ret
    rw [HV.out]
    exact ⟨rfl, rfl⟩
  · have q : ¬ (h : Int) ≤ 1 := by omega
    cases hg : S.get h with
    | some nd =>
      have HV : Bx (S.lev h = nd.l) := ⟨by unfold Sto.lev; rw [if_neg h2, hg]⟩
      have HG := Bx.mk hg
      clear hg
      go_enter Try.func21, Try.ntmps21
      go_wp2_with fail
      refine (at_yes base B S L _ HS.out h nd HG.out).mono ?_
      rintro e w1 ⟨⟨g, rfl, _, _, hc⟩, rfl⟩
      have n1 := hc 1 _ rfl
      clear hc
      go_wp2_with fail
      go_ret
      rw [HV.out]
      exact ⟨rfl, rfl⟩
    | none =>
      have HV : Bx (S.lev h = -1) := ⟨by unfold Sto.lev; rw [if_neg h2, hg]⟩
      have HG := Bx.mk hg
      clear hg
      go_enter Try.func21, Try.ntmps21
      go_wp2_with fail
      refine (at_no base B S L _ HS.out h h32 HG.out).mono ?_
      rintro e w1 ⟨rfl, rfl⟩
      go_wp2_with fail
      go_ret
      rw [HV.out]
      exact ⟨rfl, rfl⟩
set_option maxRecDepth 100000 in
theorem low_any (base : Nat) (B : Bk) (S : Sto) (L : List Nat) (w : World) (hs : StAt w base B S L) (h : Nat) (h32 : h < 4294967296) :
    Calls Try.prog 30 #[.pointer (some ⟨B.s, 0, none⟩), .int .u32 (h : Int)] w fun e w' => e = .returned (.int .u32 (S.low h : Int)) ∧ w' = w := by
  have HS := Bx.mk hs
  clear hs
  cases hg : S.get h with
  | some nd =>
    have HV : Bx (S.low h = nd.a) := ⟨by unfold Sto.low; rw [hg]⟩
    have HG := Bx.mk hg
    clear hg
    go_enter Try.func30, Try.ntmps30
    go_wp2_with fail
    refine (at_yes base B S L _ HS.out h nd HG.out).mono ?_
    rintro e w1 ⟨⟨g, rfl, _, _, hc⟩, rfl⟩
    have n2 := hc 2 _ rfl
    clear hc
    go_wp2_with fail
    go_ret
    rw [HV.out]
    exact ⟨rfl, rfl⟩
  | none =>
    have HG := Bx.mk hg
    by_cases h2 : h < 2
    · have HV : Bx (S.low h = h) := ⟨by unfold Sto.low; rw [hg]; simp [h2]⟩
      clear hg
      have hc : h = 0 ∨ h = 1 := by omega
      have HC := Bx.mk hc
      rcases hc with rfl | rfl
      all_goals
        go_enter Try.func30, Try.ntmps30
        go_wp2_with fail
        refine (at_no base B S L _ HS.out _ (by omega) HG.out).mono ?_
        rintro e w1 ⟨rfl, rfl⟩
        go_wp2
        go_ret
        rw [HV.out]
        exact ⟨rfl, rfl⟩
    · have HV : Bx (S.low h = 0) := ⟨by unfold Sto.low; rw [hg]; simp [h2]⟩
      clear hg
      have q : ¬ (h : Int) ≤ 1 := by omega
      have HB : Bx (bits .and .u32 (h : Int) 0 = 0) := ⟨by have e := Bt.and_u32_nat' h 0 h32 (by omega); rw [Nat.and_zero] at e; exact e⟩
      go_enter Try.func30, Try.ntmps30
      go_wp2_with fail
      refine (at_no base B S L _ HS.out h h32 HG.out).mono ?_
      rintro e w1 ⟨rfl, rfl⟩
      go_wp2
      go_ret
      rw [HV.out]
      exact ⟨congrArg (fun n => Ending.returned (.int .u32 n)) HB.out, rfl⟩
set_option maxRecDepth 100000 in
theorem high_any (base : Nat) (B : Bk) (S : Sto) (L : List Nat) (w : World) (hs : StAt w base B S L) (h : Nat) (h32 : h < 4294967296) :
    Calls Try.prog 52 #[.pointer (some ⟨B.s, 0, none⟩), .int .u32 (h : Int)] w fun e w' => e = .returned (.int .u32 (S.high h : Int)) ∧ w' = w := by
  have HS := Bx.mk hs
  clear hs
  cases hg : S.get h with
  | some nd =>
    have HV : Bx (S.high h = nd.b) := ⟨by unfold Sto.high; rw [hg]⟩
    have HG := Bx.mk hg
    clear hg
    go_enter Try.func52, Try.ntmps52
    go_wp2_with fail
    refine (at_yes base B S L _ HS.out h nd HG.out).mono ?_
    rintro e w1 ⟨⟨g, rfl, _, _, hc⟩, rfl⟩
    have n3 := hc 3 _ rfl
    clear hc
    go_wp2_with fail
    go_ret
    rw [HV.out]
    exact ⟨rfl, rfl⟩
  | none =>
    have HG := Bx.mk hg
    by_cases h2 : h < 2
    · have HV : Bx (S.high h = h) := ⟨by unfold Sto.high; rw [hg]; simp [h2]⟩
      clear hg
      have hc : h = 0 ∨ h = 1 := by omega
      have HC := Bx.mk hc
      rcases hc with rfl | rfl
      all_goals
        go_enter Try.func52, Try.ntmps52
        go_wp2_with fail
        refine (at_no base B S L _ HS.out _ (by omega) HG.out).mono ?_
        rintro e w1 ⟨rfl, rfl⟩
        go_wp2
        go_ret
        rw [HV.out]
        exact ⟨rfl, rfl⟩
    · have HV : Bx (S.high h = 0) := ⟨by unfold Sto.high; rw [hg]; simp [h2]⟩
      clear hg
      have q : ¬ (h : Int) ≤ 1 := by omega
      have HB : Bx (bits .and .u32 (h : Int) 0 = 0) := ⟨by have e := Bt.and_u32_nat' h 0 h32 (by omega); rw [Nat.and_zero] at e; exact e⟩
      go_enter Try.func52, Try.ntmps52
      go_wp2_with fail
      refine (at_no base B S L _ HS.out h h32 HG.out).mono ?_
      rintro e w1 ⟨rfl, rfl⟩
      go_wp2
      go_ret
      rw [HV.out]
      exact ⟨congrArg (fun n => Ending.returned (.int .u32 n)) HB.out, rfl⟩
set_option maxRecDepth 100000 in
theorem slen_any (base : Nat) (B : Bk) (S : Sto) (L : List Nat) (w : World) (hs : StAt w base B S L) (hf : S.free.length ≤ S.nodes.length) :
    Calls Try.prog 12 #[.pointer (some ⟨B.s, 0, none⟩)] w fun e w' => e = .returned (.int .i64 (S.len : Int)) ∧ ∃ n, w' = w.drewN n := by
  obtain ⟨c0, c1, c2, c3, c4, c5, c6, c7⟩ := cells8 hs.hd
  have hv : ∃ p cap, B.nv = .slice p S.nodes.length cap := by
    rcases hs.nod.2 with ⟨hv, h0⟩ | ⟨g, cap, cur, hv, _⟩
    · exact ⟨none, 0, by rw [hv, h0]⟩
    · exact ⟨_, _, hv⟩
  obtain ⟨p, cap, hv⟩ := hv
  have hv2 : ∃ p cap, B.fv = .slice p S.free.length cap := by
    rcases hs.fre.2 with ⟨hv, h0⟩ | ⟨g, cap, cur, hv, _⟩
    · exact ⟨none, 0, by rw [hv, h0]⟩
    · exact ⟨_, _, hv⟩
  obtain ⟨p2, cap2, hv2⟩ := hv2
  have hsz := hs.sz
  rw [hv] at c2
  rw [hv2] at c3
  have HL : Bx ((S.nodes.length : Int) - (S.free.length : Int) = (S.len : Int)) := ⟨by unfold Sto.len; omega⟩
  clear hv hv2 hs
  generalize S.nodes.length = n at *
  generalize S.free.length = k at *
  generalize S.len = l at *
  have q0 : (k : Int) ≤ (n : Int) := by omega
  have q1 : (n : Int) ≤ 40000 := by omega
  go_enter Try.func12, Try.ntmps12
  go_wp2_with fail
  have hwi : IntKind.i64.wrap ((n : Int) - (k : Int)) = (l : Int) := by rw [wi64 (by omega) (by omega)]; exact HL.out
  go_still_tail 11, (by kernel_rfl)
  clear hwi
  go_wp2_with fail
  go_ret
  exact ⟨rfl, 1, rfl⟩
end Go.Proofs.Ythbifeoohphnpaa

/-
  A store's slices: of nodes, of free handles: grown, cut, written.
-/
namespace Go.Proofs.Ythbifeoohphnpaa
set_option linter.unusedVariables false
open Go.RowKit
theorem addr_addk {b o k : Nat} : (⟨b, o, none⟩ : Addr).add k = ⟨b, o + k, none⟩ := by
  simp only [Addr.add]
  split
  · rename_i e; subst e; rfl
  · rfl
section
variable {w w' : World} {base : Nat} {B : Bk} {S : Sto} {L : List Nat}
set_option maxRecDepth 100000 in
/-- a node appended -/
theorem node_app {v : Value} {l : List (Option Nd)} (h : w.ownsRow base 107 4 v l.length (ndFlat l)) (a : Addr) (c : Nat) (o : Option Nd) (hc : ∀ j u, (ndCells o)[j]? = some u → w.cell? (a.add j) = some u) (hn : l.length < 1000000) (hb : base ≤ w.heap.size) (ty : TypeId) :
    ∃ v' w', (Builtin.append_ #[78, 78] ty #[v, .slice (some a) 1 c]).run Try.prog w = .ok v' w' ∧ w'.ownsRow base 107 4 v' (l ++ [o]).length (ndFlat (l ++ [o])) ∧ w.grownBy w' v.ownBlock ∧
      (v'.ownBlock = v.ownBlock ∨ v'.ownBlock = some w.heap.size) := by
  obtain ⟨i0, hi, hz⟩ : ∃ i, Try.prog.info? 107 = some i ∧ i.zero = some (.agg #[.bool false, .int .i64 0, .int .u32 0, .int .u32 0]) ∧ i.size = 4 ∧ i.bytes = 24 := by
    refine ⟨_, rfl, ?_⟩
    exact ⟨by kernel_rfl, by kernel_rfl, by kernel_rfl⟩
  have hf : ndFlat [o] = ndCells o := by unfold ndFlat; simp
  have hone : ∀ u ∈ ndFlat [o], u.oneCell' = true := fun u hu => by
    rw [hf] at hu
    cases o with
    | none => simp [ndCells] at hu; rcases hu with rfl | rfl | rfl <;> rfl
    | some nd => simp [ndCells] at hu; rcases hu with rfl | rfl | rfl | rfl <;> rfl
  obtain ⟨v', w', hr, h1, h2, _, h3⟩ := run_append_own_at (P := Try.prog) w base 78 ty 107 i0 _ 4 24 Try.underlying78 hi hz.1 hz.2.1 hz.2.2 rfl (by omega) _ _ _ h a 1 c (ndFlat [o]) (by rw [hf, ndCells_length]) (fun j u hj => hc j u (by rw [hf] at hj; exact hj)) hone (by unfold maxLen; omega) (by omega) hb
  rw [← ndFlat_append] at h1
  exact ⟨v', w', hr, by rw [List.length_append]; exact h1, h2, h3⟩
theorem own_nv {B : Bk} {b : Nat} : b ∈ B.own ↔ b ∈ [B.s, B.o, B.t, B.m, B.c, B.sl, B.ca, B.cm, B.cc] ∨ b ∈ B.nv.ownBlock.toList ∨ b ∈ B.fv.ownBlock.toList := by unfold Bk.own; simp only [List.mem_append]
theorem nodup9 (h : B.own.Nodup) : [B.s, B.o, B.t, B.m, B.c, B.sl, B.ca, B.cm, B.cc].Nodup ∧ (∀ b ∈ B.nv.ownBlock.toList, b ∉ [B.s, B.o, B.t, B.m, B.c, B.sl, B.ca, B.cm, B.cc] ∧ b ∉ B.fv.ownBlock.toList) ∧ (∀ b ∈ B.fv.ownBlock.toList, b ∉ [B.s, B.o, B.t, B.m, B.c, B.sl, B.ca, B.cm, B.cc]) := by
  unfold Bk.own at h
  rw [List.nodup_append] at h
  obtain ⟨h1, h2, h3⟩ := h
  rw [List.nodup_append] at h2
  exact ⟨h1, fun b hb => ⟨fun h => h3 b h b (List.mem_append.2 (.inl hb)) rfl, fun h => h2.2.2 b hb b h rfl⟩, fun b hb h => h3 b h b (List.mem_append.2 (.inr hb)) rfl⟩
theorem nodup_toList {v : Value} : v.ownBlock.toList.Nodup := by cases v.ownBlock <;> simp
/-- the slice of nodes is another one -/
theorem StAt.put_nv (h : StAt w base B S L) {nv' : Value} {S' : Sto} (hf : Fr B.nv.ownBlock.toList w w') (hrow : w'.ownsRow base 107 4 nv' S'.nodes.length (ndFlat S'.nodes)) (hat : nv'.ownBlock = B.nv.ownBlock ∨ ∃ b, w.heap.size ≤ b ∧ nv'.ownBlock = some b)
    (hb : base ≤ w.heap.size) (e : S' = { S with nodes := S'.nodes }) (hL : ∀ x ∈ L, S'.keyOf x = S.keyOf x) (hsz : S'.nodes.length ≤ 40000) :
    StAt (w'.setCell ⟨B.s, 2, none⟩ nv') base { B with nv := nv' } S' L ∧ Stp B w { B with nv := nv' } (w'.setCell ⟨B.s, 2, none⟩ nv') := by
  obtain ⟨n1, n2, n3⟩ := nodup9 h.nd
  have hlt := h.lt
  have m9 : ∀ b ∈ [B.s, B.o, B.t, B.m, B.c, B.sl, B.ca, B.cm, B.cc], b ∉ B.nv.ownBlock.toList := fun b hb hn => (n2 b hn).1 hb
  have hhd := h.hd.fr hf (m9 _ (by simp))
  have hf2 : Fr [B.s] w' (w'.setCell ⟨B.s, 2, none⟩ nv') := (Fr.refl _ _).setCell (fun _ => by simp) _
  have m8 : ∀ b ∈ [B.o, B.t, B.m, B.c, B.sl, B.ca, B.cm, B.cc], b ∉ [B.s] := fun b hb hn => by
    have := List.nodup_cons.1 n1
    obtain rfl := List.mem_singleton.1 hn
    exact this.1 hb
  have hs' : ∀ b ∈ nv'.ownBlock.toList, b ∈ B.nv.ownBlock.toList ∨ w.heap.size ≤ b := fun b hb => by
    rcases hat with e | ⟨b', hb', e⟩
    · rw [e] at hb; exact .inl hb
    · rw [e] at hb; simp at hb; subst hb; exact .inr hb'
  have hnd : ({ B with nv := nv' } : Bk).own.Nodup := by
    unfold Bk.own
    rw [List.nodup_append]
    refine ⟨n1, ?_, fun x hx y hy e => ?_⟩
    · rw [List.nodup_append]
      refine ⟨nodup_toList, nodup_toList, fun x hx y hy e => ?_⟩
      subst e
      rcases hs' x hx with h1 | h1
      · exact (n2 x h1).2 hy
      · have := hlt x (own_nv.2 (.inr (.inr hy))); omega
    · subst e
      rcases List.mem_append.1 hy with hy | hy
      · rcases hs' x hy with h1 | h1
        · exact (n2 x h1).1 hx
        · have := hlt x (own_nv.2 (.inl hx)); omega
      · exact n3 x hy hx
  have hlo : ∀ b ∈ ({ B with nv := nv' } : Bk).own, b ∈ B.own ∨ w.heap.size ≤ b := fun b hb => by
    rcases own_nv.1 hb with h1 | h1 | h1
    · exact .inl (own_nv.2 (.inl h1))
    · rcases hs' b h1 with h2 | h2
      · exact .inl (own_nv.2 (.inr (.inl h2)))
      · exact .inr h2
    · exact .inl (own_nv.2 (.inr (.inr h1)))
  have hsn : B.s ∉ nv'.ownBlock.toList := fun hm => by
    rcases hs' _ hm with h1 | h1
    · exact m9 _ (by simp) h1
    · have := hlt B.s (own_nv.2 (.inl (by simp))); omega
  have hkeys : (L.map fun h => (h, S'.keyOf h)) = L.map fun h => (h, S.keyOf h) := List.map_congr_left fun x hx => by rw [hL x hx]
  refine ⟨⟨?_, ?_, ?_, ?_, ?_, ?_, hnd, fun b hb => ?_, ?_, hsz⟩, ⟨?_, hlo, rfl⟩⟩
  · rw [e]
    exact hhd.set_same 2 _ rfl
  · rw [e]
    exact (h.ord.fr hf (m9 _ (by simp))).fr hf2 (m8 _ (by simp))
  · rw [hkeys]
    exact (h.tab.fr hf (m9 _ (by simp)) (m9 _ (by simp)) (m9 _ (by simp)) (m9 _ (by simp))).fr hf2 (m8 _ (by simp)) (m8 _ (by simp)) (m8 _ (by simp)) (m8 _ (by simp))
  · exact (h.cac.fr hf (m9 _ (by simp)) (m9 _ (by simp)) (m9 _ (by simp))).fr hf2 (m8 _ (by simp)) (m8 _ (by simp)) (m8 _ (by simp))
  · exact ownsRow_fr hrow hf2 (fun b hb hm => by obtain rfl := List.mem_singleton.1 hm; exact hsn hb)
  · rw [e]
    exact ownsRow_fr (ownsRow_fr h.fre hf (fun b hb hn => (n2 b hn).2 hb)) hf2 (fun b hb hm => by obtain rfl := List.mem_singleton.1 hm; exact n3 _ hb (by simp))
  · rcases hlo b hb with h1 | h1
    · exact h.lo b h1
    · omega
  · rw [e]; exact h.vl
  · exact (hf.mono (S' := B.own) (fun b hb _ => own_nv.2 (.inr (.inl hb)))).trans hf2 (fun b hb _ => by obtain rfl := List.mem_singleton.1 hb; exact own_nv.2 (.inl (by simp)))
/-- the slice of free handles is another one -/
theorem StAt.put_fv (h : StAt w base B S L) {fv' : Value} {S' : Sto} (hf : Fr B.fv.ownBlock.toList w w') (hrow : w'.ownsRow base 31 1 fv' S'.free.length (S'.free.map fun (x : Nat) => Value.int .u32 (x : Int))) (hat : fv'.ownBlock = B.fv.ownBlock ∨ ∃ b, w.heap.size ≤ b ∧ fv'.ownBlock = some b)
    (hb : base ≤ w.heap.size) (e : S' = { S with free := S'.free }) :
    StAt (w'.setCell ⟨B.s, 3, none⟩ fv') base { B with fv := fv' } S' L ∧ Stp B w { B with fv := fv' } (w'.setCell ⟨B.s, 3, none⟩ fv') := by
  obtain ⟨n1, n2, n3⟩ := nodup9 h.nd
  have hlt := h.lt
  have m9 : ∀ b ∈ [B.s, B.o, B.t, B.m, B.c, B.sl, B.ca, B.cm, B.cc], b ∉ B.fv.ownBlock.toList := fun b hb hn => n3 b hn hb
  have hhd := h.hd.fr hf (m9 _ (by simp))
  have hf2 : Fr [B.s] w' (w'.setCell ⟨B.s, 3, none⟩ fv') := (Fr.refl _ _).setCell (fun _ => by simp) _
  have m8 : ∀ b ∈ [B.o, B.t, B.m, B.c, B.sl, B.ca, B.cm, B.cc], b ∉ [B.s] := fun b hb hn => by
    have := List.nodup_cons.1 n1
    obtain rfl := List.mem_singleton.1 hn
    exact this.1 hb
  have hs' : ∀ b ∈ fv'.ownBlock.toList, b ∈ B.fv.ownBlock.toList ∨ w.heap.size ≤ b := fun b hb => by
    rcases hat with e | ⟨b', hb', e⟩
    · rw [e] at hb; exact .inl hb
    · rw [e] at hb; simp at hb; subst hb; exact .inr hb'
  have hnd : ({ B with fv := fv' } : Bk).own.Nodup := by
    unfold Bk.own
    rw [List.nodup_append]
    refine ⟨n1, ?_, fun x hx y hy e => ?_⟩
    · rw [List.nodup_append]
      refine ⟨nodup_toList, nodup_toList, fun x hx y hy e => ?_⟩
      subst e
      rcases hs' x hy with h1 | h1
      · exact (n2 x hx).2 h1
      · have := hlt x (own_nv.2 (.inr (.inl hx))); omega
    · subst e
      rcases List.mem_append.1 hy with hy | hy
      · exact (n2 x hy).1 hx
      · rcases hs' x hy with h1 | h1
        · exact n3 x h1 hx
        · have := hlt x (own_nv.2 (.inl hx)); omega
  have hlo : ∀ b ∈ ({ B with fv := fv' } : Bk).own, b ∈ B.own ∨ w.heap.size ≤ b := fun b hb => by
    rcases own_nv.1 hb with h1 | h1 | h1
    · exact .inl (own_nv.2 (.inl h1))
    · exact .inl (own_nv.2 (.inr (.inl h1)))
    · rcases hs' b h1 with h2 | h2
      · exact .inl (own_nv.2 (.inr (.inr h2)))
      · exact .inr h2
  have hsn : B.s ∉ fv'.ownBlock.toList := fun hm => by
    rcases hs' _ hm with h1 | h1
    · exact m9 _ (by simp) h1
    · have := hlt B.s (own_nv.2 (.inl (by simp))); omega
  have hget : ∀ x, S'.get x = S.get x := fun x => by rw [e]; rfl
  have hkeys : (L.map fun h => (h, S'.keyOf h)) = L.map fun h => (h, S.keyOf h) := List.map_congr_left fun x hx => by unfold Sto.keyOf; rw [hget x]
  refine ⟨⟨?_, ?_, ?_, ?_, ?_, ?_, hnd, fun b hb => ?_, ?_, by rw [e]; exact h.sz⟩, ⟨?_, hlo, rfl⟩⟩
  · rw [e]
    exact hhd.set_same 3 _ rfl
  · rw [e]
    exact (h.ord.fr hf (m9 _ (by simp))).fr hf2 (m8 _ (by simp))
  · rw [hkeys]
    exact (h.tab.fr hf (m9 _ (by simp)) (m9 _ (by simp)) (m9 _ (by simp)) (m9 _ (by simp))).fr hf2 (m8 _ (by simp)) (m8 _ (by simp)) (m8 _ (by simp)) (m8 _ (by simp))
  · exact (h.cac.fr hf (m9 _ (by simp)) (m9 _ (by simp)) (m9 _ (by simp))).fr hf2 (m8 _ (by simp)) (m8 _ (by simp)) (m8 _ (by simp))
  · rw [e]
    exact ownsRow_fr (ownsRow_fr h.nod hf (fun b hb hn => (n2 b hb).2 hn)) hf2 (fun b hb hm => by obtain rfl := List.mem_singleton.1 hm; exact (n2 _ hb).1 (by simp))
  · exact ownsRow_fr hrow hf2 (fun b hb hm => by obtain rfl := List.mem_singleton.1 hm; exact hsn hb)
  · rcases hlo b hb with h1 | h1
    · exact h.lo b h1
    · omega
  · rw [e]; exact h.vl
  · exact (hf.mono (S' := B.own) (fun b hb _ => own_nv.2 (.inr (.inr hb)))).trans hf2 (fun b hb _ => by obtain rfl := List.mem_singleton.1 hb; exact own_nv.2 (.inl (by simp)))
end
end Go.Proofs.Ythbifeoohphnpaa

/-
  A handle that is free.
-/
namespace Go.Proofs.Ythbifeoohphnpaa
set_option linter.unusedVariables false
open Go.RowKit
theorem ownsRow_cut {w : World} {base g n cap k : Nat} {e : TypeId} {xs : List Value} (h : w.ownsRow base e 1 (.slice (some ⟨g, 0, none⟩) n cap) n xs) (hk : k ≤ n) : w.ownsRow base e 1 (.slice (some ⟨g, 0, none⟩) k cap) k (xs.take k) := by
  rcases h.2 with ⟨h', _⟩ | ⟨g', cap', cur, h', hb, hg, hn, hm, hs, ht⟩
  · cases h'
  · cases h'
    have hl := h.1
    refine ⟨by rw [List.length_take]; omega, .inr ⟨g, cap, cur, rfl, hb, hg, by omega, hm, hs, ?_⟩⟩
    rw [← ht, List.take_take]
    congr 1
    omega
/-- a free handle taken -/
def Sto.pop (S : Sto) : Sto := { S with free := S.free.dropLast }
set_option maxRecDepth 100000 in
set_option maxHeartbeats 1000000 in
theorem handle_pop (base : Nat) (B : Bk) (S : Sto) (L : List Nat) (w : World) (hs : StAt w base B S L) (hb : base ≤ w.heap.size) (fr : List Nat) (h : Nat) (hf : S.free = fr ++ [h]) (hfl : S.free.length ≤ 40000) :
    Calls Try.prog 90 #[.pointer (some ⟨B.s, 0, none⟩)] w fun e w' => e = .returned (.int .u32 (h : Int)) ∧ ∃ fv', StAt w' base { B with fv := fv' } { S with free := fr } L ∧ Stp B w { B with fv := fv' } w' := by
  obtain ⟨c0, c1, c2, c3, c4, c5, c6, c7⟩ := cells8 hs.hd
  have hlen : S.free.length = fr.length + 1 := by rw [hf]; simp
  obtain ⟨g, cap, hv⟩ : ∃ g cap, B.fv = .slice (some ⟨g, 0, none⟩) S.free.length cap := by
    rcases hs.fre.2 with ⟨hv, h0⟩ | ⟨g, cap, cur, hv, _⟩
    · omega
    · exact ⟨g, cap, hv⟩
  have hrow := hs.fre
  rw [hv] at hrow c3
  have hcell := hrow.cells (g := g) rfl fr.length (.int .u32 (h : Int)) (by rw [hf]; simp)
  rw [addr_addk, Nat.zero_add] at hcell
  have hcut := ownsRow_cut hrow (k := fr.length) (by omega)
  have hcap : S.free.length ≤ cap := by
    rcases hrow.2 with ⟨h', _⟩ | ⟨g', cap', cur, h', _, _, hn, _⟩
    · cases h'
    · cases h'; exact hn
  have hz := hs.hd.frozen 3
  have hput := StAt.put_fv hs (w' := w) (fv' := .slice (some ⟨g, 0, none⟩) fr.length cap) (S' := { S with free := fr }) (Fr.refl _ _) (by
    have e : S.free.map (fun (x : Nat) => Value.int .u32 (x : Int)) = fr.map (fun (x : Nat) => Value.int .u32 (x : Int)) ++ [.int .u32 (h : Int)] := by rw [hf]; simp
    rw [e, List.take_left' (by simp)] at hcut
    exact hcut) (.inl (by rw [hv]; rfl)) hb rfl
  have HP := Bx.mk hput
  clear hput hcut hrow hs hf hv
  rw [hlen] at c3 hcap
  generalize fr.length = k at *
  have q0 : ((k + 1 : Nat) : Int) > 0 := by omega
  have q1 : ((k + 1 : Nat) : Int) - 1 = (k : Int) := by omega
  have q2 : (k : Int) ≤ 40000 := by omega
  have q3 : (0 : Int) ≤ (k : Int) := by omega
  have q4 : (k : Int) ≤ (cap : Int) := by omega
  clear hlen hfl
  go_enter Try.func90, Try.ntmps90
  go_wp2_with fail
  go_ret
  exact ⟨rfl, _, HP.out⟩
/-- append, where its run is known -/
theorem wpList_appB {P : Program} (w : World) {ops : Array Oper} {rest : List Oper} {o : Oper} {a : Act} {Q : Exit → Act → World → Prop} (hgd : o.guard = none) (s x : Operand) (t : TypeId)
    (ho : o.op = .call { callee := .builtin .append, args := #[s, x], argTypes := #[t, t] }) {v1 v2 v' : Value} {w' : World} (hs : a.eval s = v1) (hx : a.eval x = v2)
    (hr : (Builtin.append_ #[t, t] o.type #[v1, v2]).run P w = .ok v' w') (h : wpList P ops Q rest (a.put o.dst v') w') : wpList P ops Q (o :: rest) a w := by
  refine wpList_plain hgd fun K hK => ?_
  unfold Oper.wp execOp
  simp only [ho, resolve, invoke, builtin, Sem.run_bind, Sem.run_pure, Result.andThen_ok, List.map_toArray, List.map_cons, List.map_nil, hs, hx, hr]
  exact hK _ _ h
set_option maxRecDepth 100000 in
set_option maxHeartbeats 2000000 in
theorem handle_new (base : Nat) (B : Bk) (S : Sto) (L : List Nat) (w : World) (hs : StAt w base B S L) (hb : base ≤ w.heap.size) (hf : S.free = []) (hL : ∀ x ∈ L, x - 2 < S.nodes.length) (hsz : S.nodes.length < 40000) :
    Calls Try.prog 90 #[.pointer (some ⟨B.s, 0, none⟩)] w fun e w' => e = .returned (.int .u32 ((S.nodes.length + 2 : Nat) : Int)) ∧ ∃ nv', StAt w' base { B with nv := nv' } { S with nodes := S.nodes ++ [none] } L ∧ Stp B w { B with nv := nv' } w' := by
  obtain ⟨c0, c1, c2, c3, c4, c5, c6, c7⟩ := cells8 hs.hd
  have hfv : ∃ p cap, B.fv = .slice p 0 cap := by
    rcases hs.fre.2 with ⟨hv, h0⟩ | ⟨g, cap, cur, hv, _⟩
    · exact ⟨none, 0, hv⟩
    · exact ⟨_, _, by rw [hv, hf]; rfl⟩
  obtain ⟨p, cap, hfv⟩ := hfv
  rw [hfv] at c3
  have hbx := Blk.new w 107 #[.bool false, .int .i64 0, .int .u32 0, .int .u32 0]
  have hal : Fr [] w (w.alloc (.cells #[.bool false, .int .i64 0, .int .u32 0, .int .u32 0] 107)) := (Fr.refl _ _).alloc _
  have hrow := ownsRow_fr hs.nod hal (by simp)
  obtain ⟨nv', w2, hr, hrow2, hgr, hat⟩ := node_app hrow ⟨w.heap.size, 0, none⟩ 1 none (fun j u hj => by
    rw [addr_addk, Nat.zero_add, hbx.cell]
    simpa [ndCells] using hj) (by omega) (by rw [alloc_size]; omega) 78
  have hf2 : Fr B.nv.ownBlock.toList w w2 := (hal.mono (S' := B.nv.ownBlock.toList) (by simp)).grown hgr (fun k hk _ => by rw [hk]; simp)
  have hput := StAt.put_nv hs (w' := w2) (nv' := nv') (S' := { S with nodes := S.nodes ++ [none] }) hf2 hrow2 (by
    rcases hat with e | e
    · exact .inl e
    · rw [alloc_size] at e; exact .inr ⟨_, by omega, e⟩) hb rfl (fun x hx => by
    have h1 := hL x hx
    have e : ({ S with nodes := S.nodes ++ [none] } : Sto).get x = S.get x := by
      unfold Sto.get
      simp only
      rw [List.getElem?_append_left h1]
    unfold Sto.keyOf
    rw [e]) (by simp; omega)
  have hsn : B.s ∉ B.nv.ownBlock.toList := fun hm => ((nodup9 hs.nd).2.1 _ hm).1 (by simp)
  have hd2 := hs.hd.fr hf2 hsn
  have hz := hd2.frozen 2
  have d2 := hd2.cell 2
  obtain ⟨p', cap', hv'⟩ : ∃ p' cap', nv' = .slice p' (S.nodes.length + 1) cap' := by
    rcases hrow2.2 with ⟨hv, h0⟩ | ⟨g, cap, cur, hv, _⟩
    · simp at h0
    · exact ⟨some ⟨g, 0, none⟩, cap, by rw [hv, List.length_append]; rfl⟩
  subst hv'
  have HP := Bx.mk hput
  have q0 : ((S.nodes.length + 1 : Nat) : Int) - 1 = (S.nodes.length : Int) := by omega
  have q2 : (S.nodes.length : Int) < 40000 := by omega
  have q3 : (0 : Int) ≤ (S.nodes.length : Int) := by omega
  clear hput hs hL hrow hrow2 hgr hat hf2 hsn hd2 hal hbx hf
  generalize S.nodes.length = n at *
  generalize hnv : B.nv = nv at *
  have HNV := Bx.mk hnv
  clear hnv
  go_enter Try.func90, Try.ntmps90
  go_wp2_with (first | (at_builtin; refine wpList_appB (v1 := nv) (v2 := .slice (some ⟨w.heap.size, 0, none⟩) 1 1) _ rfl (.tmp 35) (.tmp 37) 78 rfl rfl rfl hr ?_) | fail)
  go_ret
  exact ⟨rfl, _, HP.out⟩
end Go.Proofs.Ythbifeoohphnpaa

/-
  A store's node written; its table another one.
-/
namespace Go.Proofs.Ythbifeoohphnpaa
set_option linter.unusedVariables false
open Go.RowKit
/-- one cell of a row set -/
theorem own_set {w : World} {base size g n cap : Nat} {e : TypeId} {xs : List Value} (h : w.ownsRow base e size (.slice (some ⟨g, 0, none⟩) n cap) n xs) (j : Nat) (u : Value) :
    (w.setCell ⟨g, j, none⟩ u).ownsRow base e size (.slice (some ⟨g, 0, none⟩) n cap) n (xs.set j u) := by
  rcases h.2 with ⟨h0, _⟩ | ⟨g', cap', cur, hv, hbg, hg, hnc, hcm, hcs, htake⟩
  · cases h0
  · cases hv
    refine ⟨by rw [List.length_set]; exact h.1, .inr ⟨g, cap, _, rfl, hbg, ((Blk.mk hg).set_ j u).eq, hnc, hcm, by simpa using hcs, ?_⟩⟩
    rw [Array.toList_setIfInBounds, List.take_set, htake]
theorem ndFlat_set : ∀ (l : List (Option Nd)) (i : Nat) (nd : Nd), i < l.length →
    ndFlat (l.set i (some nd)) = ((((ndFlat l).set (i * 4) (.bool true)).set (i * 4 + 1) (.int .i64 (nd.l : Int))).set (i * 4 + 2) (.int .u32 (nd.a : Int))).set (i * 4 + 3) (.int .u32 (nd.b : Int))
  | [], i, nd, h => by simp at h
  | o :: l, 0, nd, h => by
    cases o <;> rfl
  | o :: l, i + 1, nd, h => by
    have ih := ndFlat_set l i nd (by simpa using h)
    obtain ⟨v0, v1, v2, v3, hv⟩ : ∃ v0 v1 v2 v3, ndCells o = [v0, v1, v2, v3] := by cases o <;> exact ⟨_, _, _, _, rfl⟩
    have e : ndFlat (o :: l) = v0 :: v1 :: v2 :: v3 :: ndFlat l := by show ndCells o ++ ndFlat l = _; rw [hv]; rfl
    have e2 : ndFlat ((o :: l).set (i + 1) (some nd)) = v0 :: v1 :: v2 :: v3 :: ndFlat (l.set i (some nd)) := by show ndCells o ++ ndFlat (l.set i (some nd)) = _; rw [hv]; rfl
    rw [e, e2, ih, show (i + 1) * 4 = i * 4 + 1 + 1 + 1 + 1 from by omega]
    rfl
theorem nd9_a {s o t m c sl ca cm cc : Nat} (h : [s, o, t, m, c, sl, ca, cm, cc].Nodup) : ∀ b, b ∈ [s, o, ca, cm, cc] → b ∉ [m, c, sl] := by
  intro b hb hm
  simp only [List.nodup_cons, List.mem_cons, List.not_mem_nil, or_false, not_or] at h hb hm
  rcases hb with rfl | rfl | rfl | rfl | rfl <;> rcases hm with rfl | rfl | rfl <;> simp at h
theorem nd9_b {s o t m c sl ca cm cc : Nat} : ∀ b, b ∈ [m, c, sl] → b ∈ [s, o, t, m, c, sl, ca, cm, cc] := by
  intro b hb
  simp only [List.mem_cons, List.not_mem_nil, or_false] at hb ⊢
  rcases hb with rfl | rfl | rfl <;> simp
theorem nd9_c {s o t m c sl ca cm cc : Nat} (h : [s, o, t, m, c, sl, ca, cm, cc].Nodup) : ∀ b, b ∈ [o, ca, cm, cc] → b ∉ [s] := by
  intro b hb hm
  simp only [List.nodup_cons, List.mem_cons, List.not_mem_nil, or_false, not_or] at h hb hm
  rcases hb with rfl | rfl | rfl | rfl <;> subst hm <;> simp at h
theorem nd9_d {s o t m c sl ca cm cc t' m' c' sl' z : Nat} (h : [s, o, t, m, c, sl, ca, cm, cc].Nodup) (hd : [t', m', c', sl'].Nodup) (hn : z ≤ t' ∧ z ≤ m' ∧ z ≤ c' ∧ z ≤ sl') (hl : ∀ b ∈ [s, o, t, m, c, sl, ca, cm, cc], b < z) : [s, o, t', m', c', sl', ca, cm, cc].Nodup := by
  have l1 := hl s (by simp)
  have l2 := hl o (by simp)
  have l3 := hl ca (by simp)
  have l4 := hl cm (by simp)
  have l5 := hl cc (by simp)
  have ne : ∀ x y, x < z → z ≤ y → x ≠ y := fun x y h1 h2 => by omega
  simp only [List.nodup_cons, List.mem_cons, List.not_mem_nil, or_false, not_or, List.nodup_nil, and_true, not_false_eq_true] at h hd ⊢
  obtain ⟨⟨h1, _, _, _, _, h2, h3, h4⟩, ⟨_, _, _, _, h5, h6, h7⟩, _, _, _, _, ⟨h8, h9⟩, h10⟩ := h
  obtain ⟨⟨d1, d2, d3⟩, ⟨d4, d5⟩, d6⟩ := hd
  obtain ⟨q1, q2, q3, q4⟩ := hn
  exact ⟨⟨h1, ne _ _ l1 q1, ne _ _ l1 q2, ne _ _ l1 q3, ne _ _ l1 q4, h2, h3, h4⟩, ⟨ne _ _ l2 q1, ne _ _ l2 q2, ne _ _ l2 q3, ne _ _ l2 q4, h5, h6, h7⟩, ⟨d1, d2, d3, (ne _ _ l3 q1).symm, (ne _ _ l4 q1).symm, (ne _ _ l5 q1).symm⟩, ⟨d4, d5, (ne _ _ l3 q2).symm, (ne _ _ l4 q2).symm, (ne _ _ l5 q2).symm⟩, ⟨d6, (ne _ _ l3 q3).symm, (ne _ _ l4 q3).symm, (ne _ _ l5 q3).symm⟩, ⟨(ne _ _ l3 q4).symm, (ne _ _ l4 q4).symm, (ne _ _ l5 q4).symm⟩, ⟨h8, h9⟩, h10⟩
theorem nd9_e {s o t m c sl ca cm cc t' m' c' sl' z : Nat} (hn : z ≤ t' ∧ z ≤ m' ∧ z ≤ c' ∧ z ≤ sl') : ∀ b, b ∈ [s, o, t', m', c', sl', ca, cm, cc] → b ∈ [s, o, t, m, c, sl, ca, cm, cc] ∨ z ≤ b := by
  intro b hb
  obtain ⟨q1, q2, q3, q4⟩ := hn
  simp only [List.mem_cons, List.not_mem_nil, or_false] at hb ⊢
  rcases hb with rfl | rfl | rfl | rfl | rfl | rfl | rfl | rfl | rfl <;> simp_all
section
variable {w w' : World} {base : Nat} {B : Bk} {S : Sto} {L : List Nat}
/-- a node's four cells written -/
theorem StAt.set_nd (h : StAt w base B S L) {g cap : Nat} (hv : B.nv = .slice (some ⟨g, 0, none⟩) S.nodes.length cap) (i : Nat) (hi : i < S.nodes.length) (nd : Nd) (hL : ∀ x ∈ L, x - 2 ≠ i) :
    let W := (((w.setCell ⟨g, i * 4, none⟩ (.bool true)).setCell ⟨g, i * 4 + 1, none⟩ (.int .i64 (nd.l : Int))).setCell ⟨g, i * 4 + 2, none⟩ (.int .u32 (nd.a : Int))).setCell ⟨g, i * 4 + 3, none⟩ (.int .u32 (nd.b : Int))
    StAt W base B { S with nodes := S.nodes.set i (some nd) } L ∧ Stp B w B W := by
  intro W
  obtain ⟨n1, n2, n3⟩ := nodup9 h.nd
  have hf : Fr [g] w W := ((((Fr.refl [g] w).setCell (fun _ => by simp) _).setCell (fun _ => by simp) _).setCell (fun _ => by simp) _).setCell (fun _ => by simp) _
  have hgn : g ∈ B.nv.ownBlock.toList := by rw [hv]; simp [Value.ownBlock]
  have m9 : ∀ b ∈ [B.s, B.o, B.t, B.m, B.c, B.sl, B.ca, B.cm, B.cc], b ∉ [g] := fun b hb hm => by
    obtain rfl := List.mem_singleton.1 hm
    exact (n2 b hgn).1 hb
  have hrow := h.nod
  rw [hv] at hrow
  have hset := own_set (own_set (own_set (own_set hrow (i * 4) (.bool true)) (i * 4 + 1) (.int .i64 (nd.l : Int))) (i * 4 + 2) (.int .u32 (nd.a : Int))) (i * 4 + 3) (.int .u32 (nd.b : Int))
  rw [← ndFlat_set S.nodes i nd hi] at hset
  have hget : ∀ x ∈ L, ({ S with nodes := S.nodes.set i (some nd) } : Sto).get x = S.get x := fun x hx => by
    unfold Sto.get
    simp only
    rw [List.getElem?_set_ne (fun e => hL x hx e.symm)]
  have hkeys : (L.map fun h => (h, ({ S with nodes := S.nodes.set i (some nd) } : Sto).keyOf h)) = L.map fun h => (h, S.keyOf h) := List.map_congr_left fun x hx => by unfold Sto.keyOf; rw [hget x hx]
  refine ⟨⟨h.hd.fr hf (m9 _ (by simp)), h.ord.fr hf (m9 _ (by simp)), ?_, h.cac.fr hf (m9 _ (by simp)) (m9 _ (by simp)) (m9 _ (by simp)), ?_, ownsRow_fr h.fre hf (fun b hb hm => by
      obtain rfl := List.mem_singleton.1 hm
      exact (n2 b hgn).2 hb), h.nd, h.lo, h.vl, by simpa using h.sz⟩, ⟨hf.mono (fun b hb _ => by obtain rfl := List.mem_singleton.1 hb; exact own_nv.2 (.inr (.inl hgn))), fun b hb => .inl hb, rfl⟩⟩
  · rw [hkeys]
    exact h.tab.fr hf (m9 _ (by simp)) (m9 _ (by simp)) (m9 _ (by simp)) (m9 _ (by simp))
  · show W.ownsRow base 107 4 B.nv (S.nodes.set i (some nd)).length (ndFlat (S.nodes.set i (some nd)))
    rw [hv, List.length_set]
    exact hset
/-- the table's cells turn -/
theorem StAt.put_tab (h : StAt w base B S L) {xs' : List Nat} {f' : Nat → Option Nat} {L' : List Nat} (hf : Fr [B.m, B.c, B.sl] w w') (ht : TabMem w' B.t B.m B.c B.sl xs' f' (L'.map fun h => (h, S.keyOf h))) :
    StAt w' base { B with xs := xs', f := f' } S L' ∧ Stp B w { B with xs := xs', f := f' } w' := by
  obtain ⟨n1, n2, n3⟩ := nodup9 h.nd
  have m3 := nd9_a n1
  have mv : ∀ b, b ∈ [B.m, B.c, B.sl] → b ∈ [B.s, B.o, B.t, B.m, B.c, B.sl, B.ca, B.cm, B.cc] := nd9_b
  exact ⟨⟨h.hd.fr hf (m3 _ (by simp)), h.ord.fr hf (m3 _ (by simp)), ht, h.cac.fr hf (m3 _ (by simp)) (m3 _ (by simp)) (m3 _ (by simp)), ownsRow_fr h.nod hf (fun b hb hm => (n2 b hb).1 (mv b hm)), ownsRow_fr h.fre hf (fun b hb hm => n3 b hb (mv b hm)), h.nd, h.lo, h.vl, h.sz⟩,
    ⟨hf.mono (fun b hb _ => own_nv.2 (.inl (mv b hb))), fun b hb => .inl hb, rfl⟩⟩
/-- a new table -/
theorem StAt.new_tab (h : StAt w base B S L) {t m c sl : Nat} {xs' : List Nat} {f' : Nat → Option Nat} {L' : List Nat} (hf : Fr [B.s] w w') (hb : base ≤ w.heap.size) (hn : w.heap.size ≤ t ∧ w.heap.size ≤ m ∧ w.heap.size ≤ c ∧ w.heap.size ≤ sl) (hd : [t, m, c, sl].Nodup)
    (hhd : Blk w' B.s 83 (StoV S.room B.o B.nv B.fv t sl B.ca S.off)) (ht : TabMem w' t m c sl xs' f' (L'.map fun h => (h, S.keyOf h))) :
    StAt w' base { B with t := t, m := m, c := c, sl := sl, xs := xs', f := f' } S L' ∧ Stp B w { B with t := t, m := m, c := c, sl := sl, xs := xs', f := f' } w' := by
  obtain ⟨n1, n2, n3⟩ := nodup9 h.nd
  have hl := h.lt
  have l9 : ∀ b ∈ [B.s, B.o, B.t, B.m, B.c, B.sl, B.ca, B.cm, B.cc], b < w.heap.size := fun b hb => hl b (own_nv.2 (.inl hb))
  have m5 := nd9_c n1
  have hnd9 := nd9_d n1 hd hn l9
  have mem9 := nd9_e (s := B.s) (o := B.o) (t := B.t) (m := B.m) (c := B.c) (sl := B.sl) (ca := B.ca) (cm := B.cm) (cc := B.cc) hn
  have hown : ∀ b ∈ ({ B with t := t, m := m, c := c, sl := sl, xs := xs', f := f' } : Bk).own, b ∈ B.own ∨ w.heap.size ≤ b := fun b hb => by
    rcases own_nv.1 hb with h1 | h1 | h1
    · rcases mem9 b h1 with h2 | h2
      · exact .inl (own_nv.2 (.inl h2))
      · exact .inr h2
    · exact .inl (own_nv.2 (.inr (.inl h1)))
    · exact .inl (own_nv.2 (.inr (.inr h1)))
  have hnd : ({ B with t := t, m := m, c := c, sl := sl, xs := xs', f := f' } : Bk).own.Nodup := by
    unfold Bk.own
    rw [List.nodup_append]
    refine ⟨hnd9, ?_, fun x hx y hy e => ?_⟩
    · rw [List.nodup_append]
      exact ⟨nodup_toList, nodup_toList, fun x hx y hy e => by subst e; exact (n2 x hx).2 hy⟩
    · subst e
      rcases List.mem_append.1 hy with hy | hy
      · rcases mem9 x hx with h1 | h1
        · exact (n2 x hy).1 h1
        · have := hl x (own_nv.2 (.inr (.inl hy))); omega
      · rcases mem9 x hx with h1 | h1
        · exact n3 x hy h1
        · have := hl x (own_nv.2 (.inr (.inr hy))); omega
  refine ⟨⟨hhd, h.ord.fr hf (m5 _ (by simp)), ht, h.cac.fr hf (m5 _ (by simp)) (m5 _ (by simp)) (m5 _ (by simp)),
    ownsRow_fr h.nod hf (fun b hb hm => by obtain rfl := List.mem_singleton.1 hm; exact (n2 _ hb).1 (by simp)), ownsRow_fr h.fre hf (fun b hb hm => by obtain rfl := List.mem_singleton.1 hm; exact n3 _ hb (by simp)), hnd, fun b hb => ?_, h.vl, h.sz⟩,
    ⟨hf.mono (fun b hb _ => by obtain rfl := List.mem_singleton.1 hb; exact own_nv.2 (.inl (by simp))), hown, rfl⟩⟩
  rcases hown b hb with h1 | h1
  · exact h.lo b h1
  · omega
end
end Go.Proofs.Ythbifeoohphnpaa

/-
  A table of so many slots, with all nodes but some.
-/
namespace Go.Proofs.Ythbifeoohphnpaa
set_option linter.unusedVariables false
open Go.RowKit
/-- the handles of the first nodes, but some -/
def Sto.laid (S : Sto) (bl : List Nat) : Nat → List Nat
  | 0 => []
  | k + 1 => if (S.get (k + 2)).isSome && !decide (k + 2 ∈ bl) then (k + 2) :: S.laid bl k else S.laid bl k
theorem Sto.mem_laid {S : Sto} {bl : List Nat} : ∀ {k h : Nat}, h ∈ S.laid bl k ↔ 2 ≤ h ∧ h < k + 2 ∧ S.get h ≠ none ∧ h ∉ bl
  | 0, h => by simp [Sto.laid]; omega
  | k + 1, h => by
    have ih := Sto.mem_laid (S := S) (bl := bl) (k := k) (h := h)
    unfold Sto.laid
    by_cases hc : ((S.get (k + 2)).isSome && !decide (k + 2 ∈ bl)) = true
    · rw [if_pos hc, List.mem_cons, ih]
      simp only [Bool.and_eq_true, Bool.not_eq_true', decide_eq_false_iff_not, Option.isSome_iff_ne_none] at hc
      constructor
      · rintro (rfl | ⟨h1, h2, h3, h4⟩)
        · exact ⟨by omega, by omega, hc.1, hc.2⟩
        · exact ⟨h1, by omega, h3, h4⟩
      · rintro ⟨h1, h2, h3, h4⟩
        by_cases e : h = k + 2
        · exact .inl e
        · exact .inr ⟨h1, by omega, h3, h4⟩
    · rw [if_neg hc, ih]
      constructor
      · rintro ⟨h1, h2, h3, h4⟩; exact ⟨h1, by omega, h3, h4⟩
      · rintro ⟨h1, h2, h3, h4⟩
        refine ⟨h1, ?_, h3, h4⟩
        by_cases e : h = k + 2
        · subst e
          exfalso
          apply hc
          simp only [Bool.and_eq_true, Bool.not_eq_true', decide_eq_false_iff_not, Option.isSome_iff_ne_none]
          exact ⟨h3, h4⟩
        · omega
theorem Sto.laid_nodup {S : Sto} {bl : List Nat} : ∀ {k : Nat}, (S.laid bl k).Nodup
  | 0 => List.nodup_nil
  | k + 1 => by
    unfold Sto.laid
    split
    · exact List.nodup_cons.2 ⟨fun h => by have := (Sto.mem_laid.1 h).2.1; omega, Sto.laid_nodup⟩
    · exact Sto.laid_nodup
theorem Sto.laid_mono {S : Sto} {bl : List Nat} {k : Nat} : ∀ {j : Nat}, k ≤ j → (S.laid bl k).length ≤ (S.laid bl j).length
  | 0, h => by obtain rfl : k = 0 := by omega
               exact Nat.le_refl _
  | j + 1, h => by
    by_cases e : k = j + 1
    · subst e; exact Nat.le_refl _
    · have := Sto.laid_mono (S := S) (bl := bl) (k := k) (j := j) (by omega)
      refine Nat.le_trans this ?_
      conv => rhs; unfold Sto.laid
      split
      · simp
      · exact Nat.le_refl _
/-- nodes that fit into keys, each once -/
structure Sto.Fit (S : Sto) : Prop where
  nd : ∀ h nd, S.get h = some nd → nd.l < 256 ∧ nd.a < 65536 ∧ nd.b < 65536 ∧ nd.a ≠ nd.b
  uq : ∀ h h' nd, S.get h = some nd → S.get h' = some nd → h = h'
  sz : S.nodes.length ≤ 40000
theorem Sto.keyOf_some {S : Sto} {h : Nat} {nd : Nd} (hg : S.get h = some nd) : S.keyOf h = Ut.key nd.l nd.a nd.b := by unfold Sto.keyOf; rw [hg]
theorem Sto.Fit.key {S : Sto} (F : S.Fit) {h : Nat} {nd : Nd} (hg : S.get h = some nd) {L : List Nat} (hL : ∀ x ∈ L, S.get x ≠ none) (hn : h ∉ L) : Ut.key nd.l nd.a nd.b ∉ (L.map fun h => (h, S.keyOf h)).map Prod.snd := by
  intro hm
  rw [List.map_map] at hm
  obtain ⟨x, hx, e⟩ := List.mem_map.1 hm
  simp only [Function.comp] at e
  cases hgx : S.get x with
  | none => exact hL x hx hgx
  | some nx =>
    rw [Sto.keyOf_some hgx] at e
    have h1 := F.nd h nd hg
    have h2 := F.nd x nx hgx
    obtain ⟨e1, e2, e3⟩ := Ut.key_inj (by omega) (by omega) (by omega) (by omega) e
    have : nx = nd := by cases nx; cases nd; simp_all
    subst this
    have := F.uq h x nx hg hgx
    subst this
    exact hn hx
theorem zeroUnit (w : World) : (zeroValue 93).run Try.prog w = .ok (.agg #[]) w := by kernel_rfl
/-- a slice of handles that lies aside -/
structure HSl (w : World) (p : Option Addr) (l : List Nat) (bad : List Nat) : Prop where
  cell : ∀ j x : Nat, l[j]? = some x → x < 65536 ∧ ∃ g off, p = some ⟨g, off, none⟩ ∧ g ∉ bad ∧ g < w.heap.size ∧ w.cell? ⟨g, off + j, none⟩ = some (.int .u32 (x : Int))
theorem HSl.nil (w : World) (bad : List Nat) : HSl w none [] bad := ⟨fun j x h => by simp at h⟩
set_option maxRecDepth 100000 in
set_option maxHeartbeats 4000000 in
theorem grows_any (base : Nat) (B : Bk) (S : Sto) (L : List Nat) (n : Nat) (p : Option Addr) (bl : List Nat) (capb : Nat) (w : World) (hs : StAt w base B S L) (hb : base ≤ w.heap.size) (F : S.Fit) (hn : 0 < n ∧ n ≤ 262144) (hl : (S.laid bl S.nodes.length).length < n) (hbut : HSl w p bl B.own) (hbl : bl.length ≤ 40000) :
    Calls Try.prog 44 #[.pointer (some ⟨B.s, 0, none⟩), .int .i64 (n : Int), .slice p bl.length capb] w fun e w' => e = .returned (.tuple #[]) ∧
      ∃ t m c sl xs f, StAt w' base { B with t := t, m := m, c := c, sl := sl, xs := xs, f := f } S (S.laid bl S.nodes.length) ∧ Stp B w { B with t := t, m := m, c := c, sl := sl, xs := xs, f := f } w' ∧ xs.length = n := by
  obtain ⟨c0, c1, c2, c3, c4, c5, c6, c7⟩ := cells8 hs.hd
  have HS := Bx.mk hs
  have HF := Bx.mk F
  have HBUT := Bx.mk hbut
  have HL := Bx.mk hl
  have HM := Bx.mk (mem_new_any n w hn.2)
  have z4 := hs.hd.frozen 4
  have z5 := hs.hd.frozen 5
  have hmm := @run_makeMap Try.prog
  have HN0 := Bx.mk hn
  clear hs F hbut hl hn
  go_enter Try.func44, Try.ntmps44
  go_wp2_with fail
  refine HM.out.mono ?_
  rintro e w1 ⟨rfl, hm1, hf1, hsz1⟩
  have hT := tabnew_any (w.heap.size + 1) w.heap.size (List.replicate n 0) w1 hm1 (by rw [List.length_replicate]; exact HN0.out.1) (by rw [List.length_replicate]; have := HN0.out.2; omega)
  rw [List.length_replicate] at hT
  have HT := Bx.mk hT
  have hd1 := HS.out.hd.fr hf1 (by simp)
  clear hT c0 c1 c2 c3 c4 c5 c6 c7 z4 z5
  go_wp2_with fail
  refine HT.out.mono ?_
  rintro e w2 ⟨rfl, hu2, hf2, hsz2⟩
  have hd2 := hd1.fr hf2 (by simp)
  obtain ⟨c0, c1, c2, c3, c4, c5, c6, c7⟩ := cells8 hd2
  have z4 := hd2.frozen 4
  have z5 := hd2.frozen 5
  have hbs : B.s < w.heap.size := HS.out.hd.lt
  have hw2 : w2.heap.size = w.heap.size + 3 := by omega
  have hd3 : Blk ((w2.setCell ⟨B.s, 4, none⟩ (.pointer (some ⟨w.heap.size + 2, 0, none⟩))).alloc (.map #[] 0)) B.s 83 (StoV S.room B.o B.nv B.fv (w.heap.size + 2) B.sl B.ca S.off) := Blk.alloc (hd2.set_same 4 _ rfl) _
  have d5 := hd3.cell 5
  have y5 := hd3.frozen 5
  have hd4 : Blk (((w2.setCell ⟨B.s, 4, none⟩ (.pointer (some ⟨w.heap.size + 2, 0, none⟩))).alloc (.map #[] 0)).setCell ⟨B.s, 5, none⟩ (.map (some w2.heap.size))) B.s 83 (StoV S.room B.o B.nv B.fv (w.heap.size + 2) w2.heap.size B.ca S.off) := hd3.set_same 5 _ rfl
  rw [hsz1] at hu2
  have hf0 : Fr [] w w2 := hf1.trans hf2 (fun _ h _ => h)
  have hmp : SlotMap (((w2.setCell ⟨B.s, 4, none⟩ (.pointer (some ⟨w.heap.size + 2, 0, none⟩))).alloc (.map #[] 0)).setCell ⟨B.s, 5, none⟩ (.map (some w2.heap.size))) w2.heap.size (fun _ => none) := by
    have h1 := MapI.new 3 31 .i64 .u32 (w2.setCell ⟨B.s, 4, none⟩ (.pointer (some ⟨w.heap.size + 2, 0, none⟩)))
    have e : (w2.setCell ⟨B.s, 4, none⟩ (.pointer (some ⟨w.heap.size + 2, 0, none⟩))).heap.size = w2.heap.size := by simp [World.setCell]
    rw [e] at h1
    exact h1.fr ((Fr.refl [B.s] _).setCell (fun _ => by simp) _) (by simp; omega)
  have hfs : Fr [B.s] w2 (((w2.setCell ⟨B.s, 4, none⟩ (.pointer (some ⟨w.heap.size + 2, 0, none⟩))).alloc (.map #[] 0)).setCell ⟨B.s, 5, none⟩ (.map (some w2.heap.size))) := (((Fr.refl [B.s] _).setCell (fun _ => by simp) _).alloc _).setCell (fun _ => by simp) _
  have hnt := StAt.new_tab (L' := []) HS.out ((hf0.mono (S' := [B.s]) (by simp)).trans hfs (fun _ h _ => h)) hb (t := w.heap.size + 2) (m := w.heap.size + 1) (c := w.heap.size) (sl := w2.heap.size) ⟨by omega, by omega, by omega, by omega⟩ (by simp; omega) hd4
    ⟨hu2.fr hfs (by simp; omega) (by simp; omega) (by simp; omega), hmp, TabOk.empty n, by simp, by omega⟩
  have hzz : (((w2.setCell ⟨B.s, 4, none⟩ (.pointer (some ⟨w.heap.size + 2, 0, none⟩))).alloc (.map #[] 0)).setCell ⟨B.s, 5, none⟩ (.map (some w2.heap.size))).heap.size = w2.heap.size + 1 := by simp [World.setCell]
  have hset := SetI.new 31 .u32 (((w2.setCell ⟨B.s, 4, none⟩ (.pointer (some ⟨w.heap.size + 2, 0, none⟩))).alloc (.map #[] 0)).setCell ⟨B.s, 5, none⟩ (.map (some w2.heap.size)))
  rw [hzz] at hset
  have hal := (Fr.refl [] (((w2.setCell ⟨B.s, 4, none⟩ (.pointer (some ⟨w.heap.size + 2, 0, none⟩))).alloc (.map #[] 0)).setCell ⟨B.s, 5, none⟩ (.map (some w2.heap.size)))).alloc (.map #[] 0)
  have hst := hnt.1.fr hal (by simp)
  have hstp := hnt.2.trans ⟨hal.mono (S' := _) (by simp), fun b h => .inl h, rfl⟩
  have HW2 := Bx.mk hw2
  have HST := Bx.mk hst
  have HSTP := Bx.mk hstp
  have HSET := Bx.mk hset
  clear hsz2 hf2 hd2 hu2 hw2 hm1 hf1 hd1 HT HM hmp hfs hnt hset hal hst hstp hd3 hd4 hf0 hzz
  go_wp2_with fail
  generalize (((w2.setCell ⟨B.s, 4, none⟩ (.pointer (some ⟨w.heap.size + 2, 0, none⟩))).alloc (.map #[] 0)).setCell ⟨B.s, 5, none⟩ (.map (some w2.heap.size))).alloc (.map #[] 0) = u at *
  generalize w2.heap.size = z at *
  clear c0 c1 c2 c3 c4 c5 c6 c7 z4 z5 d5 y5
  have hzn : z + 1 ∉ ({ B with t := w.heap.size + 2, m := w.heap.size + 1, c := w.heap.size, sl := z, xs := List.replicate n 0, f := fun _ => none } : Bk).own := fun hm => by
    have hl := HS.out.lt
    have hz := HW2.out
    rcases own_nv.1 hm with h1 | h1 | h1
    · have l1 := hl B.s (own_nv.2 (.inl (by simp)))
      have l2 := hl B.o (own_nv.2 (.inl (by simp)))
      have l3 := hl B.ca (own_nv.2 (.inl (by simp)))
      have l4 := hl B.cm (own_nv.2 (.inl (by simp)))
      have l5 := hl B.cc (own_nv.2 (.inl (by simp)))
      simp only [List.mem_cons, List.not_mem_nil, or_false] at h1
      omega
    · have := hl _ (own_nv.2 (.inr (.inl h1))); omega
    · have := hl _ (own_nv.2 (.inr (.inr h1))); omega
  go_loopw [31] (fun i wr => ∃ j So, j ≤ bl.length ∧ i = .int .i64 (j : Int) ∧ Fr [z + 1] u wr ∧ SetI 31 .u32 wr (z + 1) So ∧ ∀ x, x ∈ So ↔ x ∈ bl.take j) (fun i _ => bl.length - (intOf i).toNat)
  case atStart => exact ⟨0, [], Nat.zero_le _, rfl, Fr.refl _ _, HSET.out, by simp⟩
  case round =>
    obtain ⟨j, So, hj, rfl, hfu, hso, hmem⟩ := hrel
    have HFU := Bx.mk hfu
    have HSO := Bx.mk hso
    have HME := Bx.mk hmem
    clear hfu hso hmem
    by_cases hlt : j < bl.length
    · obtain ⟨x, hx⟩ : ∃ x, bl[j]? = some x := ⟨_, List.getElem?_eq_getElem hlt⟩
      obtain ⟨hx16, g, off, rfl, hgb, hgw, hcell⟩ := HBUT.out.cell j x hx
      have hcw : wr.cell? ⟨g, off + j, none⟩ = some (.int .u32 (x : Int)) := by
        have h1 : (u.heap[g]?) = w.heap[g]? := HSTP.out.fr.block g hgw hgb
        have h2 : (wr.heap[g]?) = u.heap[g]? := HFU.out.block g (Nat.lt_of_lt_of_le hgw HSTP.out.fr.size) (by simp; have := HW2.out; omega)
        rw [← hcell]
        unfold World.cell?
        rw [h2, h1]
      obtain ⟨w3, hr, hso3, hf3, hsz3⟩ := HSO.out.run_set Try.underlying91 Try.underlying31 x (by omega) (wf_u32n (by omega))
      have HE : Bx (Fr [z + 1] u w3 ∧ SetI 31 .u32 w3 (z + 1) (addN x So) ∧ ∀ y, y ∈ addN x So ↔ y ∈ bl.take (j + 1)) := ⟨HFU.out.trans hf3 (fun _ h _ => h), hso3, fun y => by
        rw [mem_addN, HME.out, List.take_add_one, hx]
        simp
        exact or_comm⟩
      have q : (j : Int) < (bl.length : Int) := by omega
      have q0 : (0 : Int) ≤ (j : Int) := by omega
      have q1 : (bl.length : Int) ≤ 40000 := by omega
      clear hx hf3 hso3 hsz3 hgb hgw hcell HFU HSO HME
      generalize bl.length = nb at *
      go_wp2_with fail
      exact ⟨⟨j + 1, addN x So, hlt, by go_num, HE.out⟩, by simp [intOf]; omega⟩
    · obtain rfl : j = bl.length := by omega
      have HTW : Bx (StAt wr base { B with t := w.heap.size + 2, m := w.heap.size + 1, c := w.heap.size, sl := z, xs := List.replicate n 0, f := fun _ => none } S [] ∧ Stp B w { B with t := w.heap.size + 2, m := w.heap.size + 1, c := w.heap.size, sl := z, xs := List.replicate n 0, f := fun _ => none } wr ∧ SetI 31 .u32 wr (z + 1) So ∧ ∀ x, x ∈ So ↔ x ∈ bl) :=
        ⟨HST.out.fr HFU.out (fun b hb hm => by obtain rfl := List.mem_singleton.1 hm; exact hzn hb), ⟨HSTP.out.fr.trans HFU.out (fun b hb hl => by obtain rfl := List.mem_singleton.1 hb; have := HW2.out; omega), HSTP.out.sub, HSTP.out.s⟩, HSO.out, fun x => by rw [HME.out, List.take_length]⟩
      have hzz : w.heap.size + 3 = z := HW2.out.symm
      have hsz : S.nodes.length ≤ 40000 := HST.out.sz
      clear HME hlt hj HST HSTP HFU HSO HSET
      obtain ⟨p2, cap2, hv⟩ : ∃ p2 cap2, B.nv = .slice p2 S.nodes.length cap2 := by
        rcases HS.out.nod.2 with ⟨hv, h0⟩ | ⟨g, cap, cur, hv, _⟩
        · exact ⟨none, 0, by rw [hv, h0]⟩
        · exact ⟨_, _, hv⟩
      have d2 : wr.cell? ⟨B.s, 2, none⟩ = some B.nv := HTW.out.1.hd.cell 2
      rw [hv] at d2
      have HV := Bx.mk hv
      have HSZ := Bx.mk hsz
      clear hv hsz
      obtain ⟨len, hlen⟩ : ∃ len, S.nodes.length = len := ⟨_, rfl⟩
      rw [hlen] at d2
      have HLEN := Bx.mk hlen
      clear hlen
      go_wp2_with fail
      have hB : ∀ b ∈ B.own, b < w.heap.size := HS.out.lt
      have hbm : B.s ≠ w.heap.size + 1 ∧ B.s ≠ w.heap.size ∧ B.s ≠ z := by omega
      clear d2
      go_loopw [44] (fun i wr => ∃ k xs f, k ≤ len ∧ i = .int .i64 (k : Int) ∧ xs.length = n ∧ StAt wr base { B with t := w.heap.size + 2, m := w.heap.size + 1, c := w.heap.size, sl := z, xs := xs, f := f } S (S.laid bl k) ∧ Stp B w { B with t := w.heap.size + 2, m := w.heap.size + 1, c := w.heap.size, sl := z, xs := xs, f := f } wr ∧ SetI 31 .u32 wr (z + 1) So) (fun i _ => len - (intOf i).toNat)
      case atStart => exact ⟨0, _, _, Nat.zero_le _, rfl, List.length_replicate, HTW.out.1, HTW.out.2.1, HTW.out.2.2.1⟩
      case round =>
        obtain ⟨k, xs, f, hk, rfl, hxl, hst, hstp, hso⟩ := hrel
        have HST := Bx.mk hst
        have HSTP := Bx.mk hstp
        have HSO := Bx.mk hso
        have HXL := Bx.mk hxl
        clear hst hstp hso hxl
        by_cases hlt : k < len
        · have hlt2 : k < S.nodes.length := by rw [HLEN.out]; exact hlt
          obtain ⟨o, ho⟩ : ∃ o, S.nodes[k]? = some o := ⟨_, List.getElem?_eq_getElem hlt2⟩
          obtain ⟨g, cap3, hv3, hg, hz, hc⟩ := HST.out.at_ ho
          have hv4 : (.slice p2 S.nodes.length cap2 : Value) = .slice (some ⟨g, 0, none⟩) S.nodes.length cap3 := HV.out.symm.trans hv3
          obtain ⟨rfl, rfl⟩ : p2 = some ⟨g, 0, none⟩ ∧ cap2 = cap3 := by
            injection hv4 with h1 h2 h3
            exact ⟨h1, h3⟩
          have hgl := HST.out.lt g hg
          have q : (k : Int) < (len : Int) := by omega
          have q0 : (0 : Int) ≤ (k : Int) := by omega
          have q1 : (len : Int) ≤ 40000 := by have := HSZ.out; rw [HLEN.out] at this; omega
          have HC := Bx.mk hc
          have HO := Bx.mk ho
          clear hv3 hv4 hc ho hz hlt2
          have hlk := fun (u : World) (hf : Fr [] wr u) => (HSO.out.fr hf (by simp)).run_ok Try.underlying91 Try.underlying31 (zeroUnit u) (k + 2) (by omega) (wf_u32n (by omega))
          have ecast : ((k + 2 : Nat) : Int) = (k : Int) + 2 := by omega
          cases o with
          | none =>
            have n0 : wr.cell? ⟨g, k * 4, none⟩ = some (.bool false) := HC.out 0 _ rfl
            have n1 : wr.cell? ⟨g, k * 4 + 1, none⟩ = some (.int .i64 0) := HC.out 1 _ rfl
            have n2 : wr.cell? ⟨g, k * 4 + 2, none⟩ = some (.int .u32 0) := HC.out 2 _ rfl
            have n3 : wr.cell? ⟨g, k * 4 + 3, none⟩ = some (.int .u32 0) := HC.out 3 _ rfl
            have hl := hlk (wr.alloc (.cells #[.bool false, .int .i64 0, .int .u32 0, .int .u32 0] 107)) ((Fr.refl _ _).alloc _)
            rw [ecast] at hl
            have hf2 : Fr [] wr ((wr.alloc (.cells #[.bool false, .int .i64 0, .int .u32 0, .int .u32 0] 107)).alloc (.cells #[] 93)) := ((Fr.refl _ _).alloc _).alloc _
            have hla : S.laid bl (k + 1) = S.laid bl k := by
              have hg : S.get (k + 2) = none := by rw [Sto.get_eq (by omega), show k + 2 - 2 = k from by omega, HO.out]; rfl
              conv => lhs; unfold Sto.laid
              rw [hg]; rfl
            have HE : Bx (StAt ((wr.alloc (.cells #[.bool false, .int .i64 0, .int .u32 0, .int .u32 0] 107)).alloc (.cells #[] 93)) base { B with t := w.heap.size + 2, m := w.heap.size + 1, c := w.heap.size, sl := z, xs := xs, f := f } S (S.laid bl (k + 1)) ∧ Stp B w { B with t := w.heap.size + 2, m := w.heap.size + 1, c := w.heap.size, sl := z, xs := xs, f := f } ((wr.alloc (.cells #[.bool false, .int .i64 0, .int .u32 0, .int .u32 0] 107)).alloc (.cells #[] 93)) ∧ SetI 31 .u32 ((wr.alloc (.cells #[.bool false, .int .i64 0, .int .u32 0, .int .u32 0] 107)).alloc (.cells #[] 93)) (z + 1) So) :=
              ⟨hla ▸ HST.out.fr hf2 (by simp), ⟨HSTP.out.fr.trans hf2 (by simp), HSTP.out.sub, HSTP.out.s⟩, HSO.out.fr hf2 (by simp)⟩
            clear hlk hf2 hla ecast
            go_wp2_with fail
            exact ⟨⟨k + 1, xs, f, hlt, by go_num, HXL.out, HE.out⟩, by simp [intOf]; omega⟩
          | some nd =>
            have n0 : wr.cell? ⟨g, k * 4, none⟩ = some (.bool true) := HC.out 0 _ rfl
            have n1 : wr.cell? ⟨g, k * 4 + 1, none⟩ = some (.int .i64 (nd.l : Int)) := HC.out 1 _ rfl
            have n2 : wr.cell? ⟨g, k * 4 + 2, none⟩ = some (.int .u32 (nd.a : Int)) := HC.out 2 _ rfl
            have n3 : wr.cell? ⟨g, k * 4 + 3, none⟩ = some (.int .u32 (nd.b : Int)) := HC.out 3 _ rfl
            have hl := hlk (wr.alloc (.cells #[.bool true, .int .i64 (nd.l : Int), .int .u32 (nd.a : Int), .int .u32 (nd.b : Int)] 107)) ((Fr.refl _ _).alloc _)
            rw [ecast] at hl
            have hf2 : Fr [] wr ((wr.alloc (.cells #[.bool true, .int .i64 (nd.l : Int), .int .u32 (nd.a : Int), .int .u32 (nd.b : Int)] 107)).alloc (.cells #[] 93)) := ((Fr.refl _ _).alloc _).alloc _
            have hget : S.get (k + 2) = some nd := by rw [Sto.get_eq (by omega), show k + 2 - 2 = k from by omega, HO.out]; rfl
            have hst2 := HST.out.fr hf2 (by simp)
            have hso2 := HSO.out.fr hf2 (by simp)
            have hstp2 : Stp B w { B with t := w.heap.size + 2, m := w.heap.size + 1, c := w.heap.size, sl := z, xs := xs, f := f } ((wr.alloc (.cells #[.bool true, .int .i64 (nd.l : Int), .int .u32 (nd.a : Int), .int .u32 (nd.b : Int)] 107)).alloc (.cells #[] 93)) := ⟨HSTP.out.fr.trans hf2 (by simp), HSTP.out.sub, HSTP.out.s⟩
            by_cases hin : k + 2 ∈ So
            · have hd : decide (k + 2 ∈ So) = true := by simp [hin]
              rw [hd] at hl
              have hla : S.laid bl (k + 1) = S.laid bl k := by
                conv => lhs; unfold Sto.laid
                rw [if_neg]
                simp [(HTW.out.2.2.2 _).1 hin]
              have HE : Bx (StAt ((wr.alloc (.cells #[.bool true, .int .i64 (nd.l : Int), .int .u32 (nd.a : Int), .int .u32 (nd.b : Int)] 107)).alloc (.cells #[] 93)) base { B with t := w.heap.size + 2, m := w.heap.size + 1, c := w.heap.size, sl := z, xs := xs, f := f } S (S.laid bl (k + 1)) ∧ Stp B w { B with t := w.heap.size + 2, m := w.heap.size + 1, c := w.heap.size, sl := z, xs := xs, f := f } ((wr.alloc (.cells #[.bool true, .int .i64 (nd.l : Int), .int .u32 (nd.a : Int), .int .u32 (nd.b : Int)] 107)).alloc (.cells #[] 93)) ∧ SetI 31 .u32 ((wr.alloc (.cells #[.bool true, .int .i64 (nd.l : Int), .int .u32 (nd.a : Int), .int .u32 (nd.b : Int)] 107)).alloc (.cells #[] 93)) (z + 1) So) := ⟨hla ▸ hst2, hstp2, hso2⟩
              clear hlk hf2 hla ecast hget hst2 hso2 hstp2 hin hd
              go_wp2_with fail
              exact ⟨⟨k + 1, xs, f, hlt, by go_num, HXL.out, HE.out⟩, by simp [intOf]; omega⟩
            · have hd : decide (k + 2 ∈ So) = false := by simp [hin]
              rw [hd] at hl
              have hnbl : k + 2 ∉ bl := fun h => hin ((HTW.out.2.2.2 _).2 h)
              have hla : S.laid bl (k + 1) = (k + 2) :: S.laid bl k := by
                conv => lhs; unfold Sto.laid
                rw [if_pos]
                simp [hget, hnbl]
              have hfit := HF.out.nd _ _ hget
              have hlay := lays_any B.s (w.heap.size + 2) (w.heap.size + 1) w.heap.size z S.room B.o B.ca B.nv B.fv S.off xs f _ (k + 2) nd.l nd.a nd.b _ hst2.hd hst2.tab hbm hfit.1 hfit.2.1 hfit.2.2.1 hfit.2.2.2 (by have := HSZ.out; omega)
                (HF.out.key hget (fun x hx => (Sto.mem_laid.1 hx).2.2.1) (fun hm => by have := (Sto.mem_laid.1 hm).2.1; omega))
                (by rw [List.length_map, HXL.out]; exact Nat.lt_of_le_of_lt (Sto.laid_mono (by have := HLEN.out; omega)) HL.out)
              rw [ecast] at hlay
              have HLAY := Bx.mk hlay
              have HE := Bx.mk (And.intro hst2 (And.intro hstp2 (And.intro hso2 (And.intro hla hget))))
              clear hlk hf2 hla ecast hget hst2 hso2 hstp2 hin hd hlay hfit hnbl
              go_wp2_with fail
              refine HLAY.out.mono ?_
              rintro e w4 ⟨rfl, ⟨xs', f', hxl', htm⟩, hf4⟩
              obtain ⟨hst2, hstp2, hso2, hla, hget⟩ := HE.out
              have hput := StAt.put_tab (L' := (k + 2) :: S.laid bl k) hst2 hf4 (by
                rw [List.map_cons, Sto.keyOf_some hget]
                exact htm)
              have HE2 : Bx (xs'.length = n ∧ StAt w4 base { B with t := w.heap.size + 2, m := w.heap.size + 1, c := w.heap.size, sl := z, xs := xs', f := f' } S (S.laid bl (k + 1)) ∧ Stp B w { B with t := w.heap.size + 2, m := w.heap.size + 1, c := w.heap.size, sl := z, xs := xs', f := f' } w4 ∧ SetI 31 .u32 w4 (z + 1) So) := ⟨hxl'.trans HXL.out, hla ▸ hput.1, hstp2.trans hput.2, hso2.fr hf4 (by simp; omega)⟩
              clear hst2 hstp2 hso2 hla hget hput htm hf4 hxl'
              go_wp2_with fail
              exact ⟨⟨k + 1, xs', f', hlt, by go_num, HE2.out⟩, by simp [intOf]; omega⟩
        · obtain rfl : k = len := by omega
          have hle := HLEN.out
          have HE : Bx (StAt wr base { B with t := w.heap.size + 2, m := w.heap.size + 1, c := w.heap.size, sl := z, xs := xs, f := f } S (S.laid bl S.nodes.length) ∧ Stp B w { B with t := w.heap.size + 2, m := w.heap.size + 1, c := w.heap.size, sl := z, xs := xs, f := f } wr ∧ xs.length = n) := ⟨by rw [hle]; exact HST.out, HSTP.out, HXL.out⟩
          clear hle hlt hk
          go_wp2_with fail
          go_end0
          exact ⟨rfl, _, _, _, _, _, _, HE.out⟩
end Go.Proofs.Ythbifeoohphnpaa

/-
  What a store's state keeps; a node more.
-/
namespace Go.Proofs.Ythbifeoohphnpaa
set_option linter.unusedVariables false
open Go.RowKit
structure Sto.Wf (S : Sto) : Prop where
  ab : ∀ h nd, S.get h = some nd → nd.a ≠ nd.b
  uq : ∀ h h' nd, S.get h = some nd → S.get h' = some nd → h = h'
  fr : S.free.Nodup
  fm : ∀ h, h ∈ S.free ↔ 2 ≤ h ∧ h < S.nodes.length + 2 ∧ S.get h = none
  kid : ∀ h nd, S.get h = some nd → nd.l < S.n ∧ S.is nd.a = true ∧ S.is nd.b = true ∧ (nd.l : Int) < S.lev nd.a ∧ (nd.l : Int) < S.lev nd.b
  rm : S.nodes.length ≤ S.room ∧ S.room ≤ 32768
  n8 : S.n ≤ 8
def Sto.all (S : Sto) : List Nat := S.laid [] S.nodes.length
theorem Sto.get_lt {S : Sto} {h : Nat} {nd : Nd} (hg : S.get h = some nd) : 2 ≤ h ∧ h < S.nodes.length + 2 := by
  unfold Sto.get at hg
  split at hg
  · cases hg
  · rename_i h2
    refine ⟨by omega, ?_⟩
    rcases Nat.lt_or_ge (h - 2) S.nodes.length with hl | hl
    · omega
    · rw [List.getElem?_eq_none hl] at hg; cases hg
theorem Sto.mem_all {S : Sto} {h : Nat} : h ∈ S.all ↔ S.get h ≠ none := by
  unfold Sto.all
  rw [Sto.mem_laid]
  constructor
  · exact fun h => h.2.2.1
  · intro hn
    cases hg : S.get h with
    | none => exact absurd hg hn
    | some nd => exact ⟨(Sto.get_lt hg).1, (Sto.get_lt hg).2, by simp, by simp⟩
theorem Sto.all_nodup {S : Sto} : S.all.Nodup := Sto.laid_nodup
theorem Sto.is_lt {S : Sto} {h : Nat} (hi : S.is h = true) : h < S.nodes.length + 2 := by
  unfold Sto.is at hi
  rw [Bool.or_eq_true, decide_eq_true_eq] at hi
  rcases hi with h1 | h1
  · omega
  · cases hg : S.get h with
    | none => rw [hg] at h1; cases h1
    | some nd => exact (Sto.get_lt hg).2
namespace Sto.Wf
variable {S : Sto}
theorem fit (W : S.Wf) : S.Fit := by
  refine ⟨fun h nd hg => ?_, W.uq, by have := W.rm; omega⟩
  obtain ⟨h1, h2, h3, _⟩ := W.kid h nd hg
  have := Sto.is_lt h2
  have := Sto.is_lt h3
  have := W.rm
  have := W.n8
  exact ⟨by omega, by omega, by omega, W.ab h nd hg⟩
theorem len (W : S.Wf) : S.free.length + S.all.length = S.nodes.length := by
  have hp : (S.free ++ S.all).Perm (List.range' 2 S.nodes.length) := by
    refine (List.perm_ext_iff_of_nodup ?_ List.nodup_range').2 fun h => ?_
    · rw [List.nodup_append]
      exact ⟨W.fr, Sto.laid_nodup, fun a ha b hb e => by subst e; exact Sto.mem_all.1 hb ((W.fm a).1 ha).2.2⟩
    · rw [List.mem_append, W.fm, Sto.mem_all, List.mem_range'_1]
      constructor
      · rintro (h1 | h1)
        · omega
        · cases hg : S.get h with
          | none => exact absurd hg h1
          | some nd => have := Sto.get_lt hg; omega
      · intro h1
        cases hg : S.get h with
        | none => exact .inl ⟨by omega, by omega, rfl⟩
        | some nd => exact .inr (by simp)
  have := hp.length_eq
  rw [List.length_append, List.length_range'] at this
  exact this
theorem slen (W : S.Wf) : S.len = S.all.length := by have := W.len; unfold Sto.len; omega
theorem fl (W : S.Wf) : S.free.length ≤ S.nodes.length := by have := W.len; omega
end Sto.Wf
/-- the handle that a new node gets -/
def Sto.next (S : Sto) : Nat := match S.free.getLast? with | some h => h | none => S.nodes.length + 2
/-- a node more -/
def Sto.add (S : Sto) (nd : Nd) : Sto := match S.free.getLast? with
  | some h => { S with free := S.free.dropLast, nodes := S.nodes.set (h - 2) (some nd) }
  | none => { S with nodes := S.nodes ++ [some nd] }
/-- what its handle, the nodes and the free ones then are -/
theorem Sto.add_cases (S : Sto) (nd : Nd) : (∃ fr h, S.free = fr ++ [h] ∧ S.next = h ∧ S.add nd = { S with free := fr, nodes := S.nodes.set (h - 2) (some nd) }) ∨
    (S.free = [] ∧ S.next = S.nodes.length + 2 ∧ S.add nd = { S with nodes := S.nodes ++ [some nd] }) := by
  rcases List.eq_nil_or_concat S.free with h | ⟨fr, h, hf⟩
  · right
    unfold Sto.next Sto.add
    rw [h]
    exact ⟨rfl, rfl, by simp⟩
  · left
    rw [List.concat_eq_append] at hf
    refine ⟨fr, h, hf, ?_, ?_⟩
    · unfold Sto.next; rw [hf]; simp
    · unfold Sto.add; rw [hf]; simp
namespace Sto.Wf
variable {S : Sto}
theorem next_spec (W : S.Wf) : 2 ≤ S.next ∧ S.next < S.nodes.length + 3 ∧ S.get S.next = none := by
  rcases S.add_cases ⟨0, 0, 0⟩ with ⟨fr, h, hf, hn, _⟩ | ⟨hf, hn, _⟩
  · have := (W.fm h).1 (by rw [hf]; simp)
    rw [hn]
    exact ⟨this.1, by omega, this.2.2⟩
  · rw [hn]
    refine ⟨by omega, by omega, ?_⟩
    rw [Sto.get_eq (by omega), List.getElem?_eq_none (by omega)]; rfl
theorem add_get (W : S.Wf) (nd : Nd) (x : Nat) : (S.add nd).get x = if x = S.next then some nd else S.get x := by
  obtain ⟨n1, n2, n3⟩ := W.next_spec
  by_cases x2 : x < 2
  · unfold Sto.get; rw [if_pos x2, if_neg (by omega), if_pos x2]
  · rw [Sto.get_eq (by omega), Sto.get_eq (by omega)]
    rcases S.add_cases nd with ⟨fr, h, hf, hn, e⟩ | ⟨hf, hn, e⟩
    · rw [e, hn]
      simp only
      have := (W.fm h).1 (by rw [hf]; simp)
      rw [List.getElem?_set]
      by_cases ex : x = h
      · rw [if_pos ex, if_pos (by omega), if_pos (by omega)]; rfl
      · rw [if_neg ex, if_neg (by omega)]
    · rw [e, hn]
      simp only
      rw [List.getElem?_append]
      by_cases ex : x = S.nodes.length + 2
      · rw [if_pos ex, if_neg (by omega), show x - 2 - S.nodes.length = 0 from by omega]; rfl
      · rw [if_neg ex]
        split
        · rfl
        · rw [List.getElem?_eq_none (by simp; omega), List.getElem?_eq_none (by omega)]
theorem add_same (S : Sto) (nd : Nd) : (S.add nd).room = S.room ∧ (S.add nd).n = S.n ∧ (S.add nd).vars = S.vars ∧ (S.add nd).levels = S.levels ∧ (S.add nd).off = S.off := by
  rcases S.add_cases nd with ⟨fr, h, hf, hn, e⟩ | ⟨hf, hn, e⟩ <;> rw [e] <;> exact ⟨rfl, rfl, rfl, rfl, rfl⟩
theorem add_keeps (W : S.Wf) (nd : Nd) {x : Nat} {m : Nd} (hg : S.get x = some m) : (S.add nd).get x = some m := by
  rw [W.add_get, if_neg, hg]
  intro e
  have := W.next_spec
  rw [← e, hg] at this
  exact absurd this.2.2 (by simp)
theorem add_is (W : S.Wf) (nd : Nd) {x : Nat} (hi : S.is x = true) : (S.add nd).is x = true ∧ (S.add nd).lev x = S.lev x := by
  unfold Sto.is at hi
  unfold Sto.is Sto.lev
  rw [(add_same S nd).2.1]
  by_cases x2 : x < 2
  · simp [x2]
  · simp only [x2, decide_false, Bool.false_or] at hi ⊢
    cases hg : S.get x with
    | none => rw [hg] at hi; cases hi
    | some m => rw [W.add_keeps nd hg]; simp
theorem add_len (W : S.Wf) (nd : Nd) : (S.add nd).len = S.len + 1 := by
  have hl := W.len
  unfold Sto.len
  rcases S.add_cases nd with ⟨fr, h, hf, hn, e⟩ | ⟨hf, hn, e⟩
  · rw [e, hf]
    have := congrArg List.length hf
    simp at this ⊢
    omega
  · rw [e, hf]
    simp
theorem add (W : S.Wf) {nd : Nd} (hl : nd.l < S.n) (ha : S.is nd.a = true) (hb : S.is nd.b = true) (la : (nd.l : Int) < S.lev nd.a) (lb : (nd.l : Int) < S.lev nd.b) (hab : nd.a ≠ nd.b) (hno : ∀ h, S.get h ≠ some nd) (hr : S.len < S.room) : (S.add nd).Wf := by
  obtain ⟨n1, n2, n3⟩ := W.next_spec
  have hlen := W.len
  refine ⟨fun h m hg => ?_, fun h h' m hg hg' => ?_, ?_, fun h => ?_, fun h m hg => ?_, ?_, by rw [(add_same S nd).2.1]; exact W.n8⟩
  · rw [W.add_get] at hg
    split at hg
    · cases hg; exact hab
    · exact W.ab h m hg
  · rw [W.add_get] at hg hg'
    split at hg <;> split at hg'
    · omega
    · cases hg; exact absurd hg' (hno _)
    · cases hg'; exact absurd hg (hno _)
    · exact W.uq h h' m hg hg'
  · rcases S.add_cases nd with ⟨fr, h, hf, hn, e⟩ | ⟨hf, hn, e⟩
    · rw [e]
      have := W.fr
      rw [hf, List.nodup_append] at this
      exact this.1
    · rw [e]; exact W.fr
  · rw [W.add_get]
    rcases S.add_cases nd with ⟨fr, x, hf, hn, e⟩ | ⟨hf, hn, e⟩
    · rw [e, hn]
      simp only [List.length_set]
      have hnd := W.fr
      rw [hf, List.nodup_append] at hnd
      have hm := W.fm h
      rw [hf, List.mem_append, List.mem_singleton] at hm
      constructor
      · intro h1
        have hne : h ≠ x := fun ex => hnd.2.2 h h1 x (by simp) ex
        rw [if_neg hne]
        exact hm.1 (.inl h1)
      · rintro ⟨h1, h2, h3⟩
        split at h3
        · cases h3
        · exact (hm.2 ⟨h1, h2, h3⟩).resolve_right (by assumption)
    · rw [e, hn]
      simp only [List.length_append, List.length_singleton]
      rw [hf]
      constructor
      · intro h1; cases h1
      · rintro ⟨h1, h2, h3⟩
        split at h3
        · cases h3
        · have := (W.fm h).2 ⟨h1, by omega, h3⟩
          rw [hf] at this
          exact this
  · rw [W.add_get] at hg
    rw [(add_same S nd).2.1]
    split at hg
    · cases hg
      have e1 := W.add_is nd ha
      have e2 := W.add_is nd hb
      exact ⟨hl, e1.1, e2.1, by rw [e1.2]; exact la, by rw [e2.2]; exact lb⟩
    · obtain ⟨k1, k2, k3, k4, k5⟩ := W.kid h m hg
      have e1 := W.add_is nd k2
      have e2 := W.add_is nd k3
      exact ⟨k1, e1.1, e2.1, by rw [e1.2]; exact k4, by rw [e2.2]; exact k5⟩
  · rw [(add_same S nd).1]
    refine ⟨?_, W.rm.2⟩
    have h1 := W.rm.1
    unfold Sto.len at hr
    rcases S.add_cases nd with ⟨fr, h, hf, hn, e⟩ | ⟨hf, hn, e⟩
    · rw [e]; simpa using h1
    · rw [e]
      rw [hf] at hr
      simp at hr ⊢
      omega
end Sto.Wf
end Go.Proofs.Ythbifeoohphnpaa
