/-
  What tables are at an assignment: the law TruthPoints. No program in sight.
-/
import Derived.Test.YtfkefgelceaimaaDoorCntPlain
namespace Go.Proofs.YtfkefgelceaimaaDoor
set_option linter.unusedVariables false
namespace Tb
theorem pt_not {f : T} {x : Nat} {a : Bool} (hx : x < 256) (ha : f.getLsbD x = a) : (~~~f).getLsbD x = !a := by
  rw [BitVec.getLsbD_not, ha]; simp [hx]
theorem pt_and {f g : T} {x : Nat} {a b : Bool} (ha : f.getLsbD x = a) (hb : g.getLsbD x = b) : (f &&& g).getLsbD x = (a && b) := by
  rw [BitVec.getLsbD_and, ha, hb]
theorem pt_or {f g : T} {x : Nat} {a b : Bool} (ha : f.getLsbD x = a) (hb : g.getLsbD x = b) : (f ||| g).getLsbD x = (a || b) := by
  rw [BitVec.getLsbD_or, ha, hb]
theorem pt_xor {f g : T} {x : Nat} {a b : Bool} (ha : f.getLsbD x = a) (hb : g.getLsbD x = b) : (f ^^^ g).getLsbD x = !(a == b) := by
  rw [BitVec.getLsbD_xor, ha, hb]; cases a <;> cases b <;> rfl
theorem pt_ite {f g h : T} {x : Nat} {a b c : Bool} (hx : x < 256) (ha : f.getLsbD x = a) (hb : g.getLsbD x = b) (hc : h.getLsbD x = c) : ((f &&& g) ||| (~~~f &&& h)).getLsbD x = (if a then b else c) := by
  rw [pt_or (pt_and ha hb) (pt_and (pt_not hx ha) hc)]; cases a <;> cases b <;> cases c <;> rfl
theorem pt_fix {f : T} {x k : Nat} {b : Bool} (hx : x < 256) (hk : k < 8) : (fix f (k : Int) b).getLsbD x = f.getLsbD (wth x k b) := fix_get hk hx
theorem pt_compose {f g : T} {x k : Nat} {b : Bool} (hx : x < 256) (hk : k < 8) (hb : g.getLsbD x = b) :
    ((g &&& fix f (k : Int) true) ||| (~~~g &&& fix f (k : Int) false)).getLsbD x = (if b then f.getLsbD (wth x k true) else f.getLsbD (wth x k false)) := by
  rw [pt_ite hx hb rfl rfl, pt_fix hx hk, pt_fix hx hk]
theorem pt_var {k x : Nat} (hx : x < 256) (hk : k < 8) : (var (k : Int)).getLsbD x = decide ((x / 2 ^ k) &&& 1 = 1) := by
  rw [var_bit hk hx, sup_bit x hx k hk]
end Tb
end Go.Proofs.YtfkefgelceaimaaDoor
