/- The small logic: a beginning of a row with its room cut. -/
import Derived.Test.YtffhbdgoikkngaaSq
namespace Go.Proofs.YtffhbdgoikkngaaS
open Go.RowKit
set_option linter.unusedVariables false
set_option linter.unusedSimpArgs false
variable {P : Program} {n : Nat} {ops : Array Oper} {rest : List Oper} {e : Env} {H : HP} {Φ : Post} {d : Nat} {ty : TypeId} {ps : String} {af : Array Edge}
theorem o_slice3S {x y q : Operand} {a : Option Addr} {len cap st el sz bt : Nat} {z : List Value} {h : Nat} {k k2 : IntKind} {i i2 : Int} {cs : List Value} [f : Slc P st el sz bt z] [hrd : RdC H a cs] (hd : d < n) (hx : ev e x = .slice a len cap) (hy : ev e y = .int k i) (hq : ev e q = .int k2 i2) (hi : i.toNat = h) (hi2 : i2 = i) (h0 : 0 ≤ i) (hc : i ≤ cap) (hp : 0 < (cs.take (h * sz)).length)
    (c : ∀ ad, (∀ H' [RdC H' a cs], RdC H' (some ad) (cs.take (h * sz))) → Ops P n ops rest (put e d (.slice (some ad) h h)) H Φ) : Ops P n ops (⟨some d, .slice st x none (some y) (some q), ty, ps, af, none⟩ :: rest) e H Φ := by
  subst hi2
  obtain rfl : i2 = (h : Int) := by omega
  refine Ops.rd_some (a := a) (l := cs) (by rw [List.length_take] at hp; omega) (fun ad ha => ?_)
  subst ha
  have key : ∀ w, (execOp (ev e) ⟨some d, .slice st x none (some y) (some q), ty, ps, af, none⟩).run P w = .ok (.value (.slice (if h = 0 then some ad else (some ad).map (·.add (0 * sz))) (h - 0) (h - 0))) w := fun w => by
    simp only [execOp, hx]
    have hb : (Instr.sliceBounds true len cap (none : Option Value) (some (ev e y)) (some (ev e q))).run P w = .ok (0, h, h) w := by
      simp [Instr.sliceBounds, Instr.sliceBound, hy, hq, asIntOf]; omega
    have hb' : (Instr.sliceBounds true len cap ((none : Option Operand).map (ev e)) ((some y).map (ev e)) ((some q).map (ev e))).run P w = .ok (0, h, h) w := hb
    simp [Instr.sliceAt, Instr.slice, run_underlying f.und, hb, f.size]
  have hh : h ≠ 0 := by intro hz; subst hz; simp at hp
  rw [if_neg hh] at key
  refine o_rfl hd key ?_
  have e1 : (some ad).map (fun v : Addr => v.add (0 * sz)) = some (ad.add (0 * sz)) := rfl
  rw [e1, Nat.sub_zero]
  refine c _ (fun H' hr => ⟨?_⟩)
  have := hr.rd.cut (lo := 0 * sz) (hi := h * sz) false
  simpa using this
end Go.Proofs.YtffhbdgoikkngaaS
