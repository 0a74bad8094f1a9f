/- The small logic: a field of a struct that is at hand, an element of an array that is at hand. -/
import Derived.Test.YtffhbdgoikkngaaSv
namespace Go.Proofs.YtffhbdgoikkngaaS
open Go.RowKit
set_option linter.unusedVariables false
variable {P : Program} {n : Nat} {ops : Array Oper} {rest : List Oper} {e : Env} {H : HP} {Φ : Post} {d : Nat} {ty : TypeId} {ps : String} {af : Array Edge}
theorem o_fldS {x : Operand} {cs : List Value} {s i : Nat} {v : Value} {fs : Array Field} {f : Field} (hd : d < n) (hx : ev e x = .agg cs.toArray) (hu : P.underlying s = some (.struct fs)) (hf : fs[i]? = some f)
    (hs : ∀ w, (isAgg f.type).run P w = .ok false w) (hv : cs[f.offset]? = some v) (c : Ops P n ops rest (put e d v) H Φ) : Ops P n ops (⟨some d, .field s x i, ty, ps, af, none⟩ :: rest) e H Φ :=
  o_rfl hd (fun w => by simp only [execOp, hx]; simp [Instr.field, run_underlying hu, hf, asAgg, part, hs, hv]) c
theorem o_fldA {x : Operand} {cs vs : List Value} {s i sz : Nat} {fs : Array Field} {f : Field} (hd : d < n) (hx : ev e x = .agg cs.toArray) (hu : P.underlying s = some (.struct fs)) (hf : fs[i]? = some f)
    (hs : ∀ w, (isAgg f.type).run P w = .ok true w) (hz : ∀ w, (sizeOf f.type).run P w = .ok sz w) (hv : (cs.drop f.offset).take sz = vs) (c : Ops P n ops rest (put e d (.agg vs.toArray)) H Φ) : Ops P n ops (⟨some d, .field s x i, ty, ps, af, none⟩ :: rest) e H Φ :=
  o_rfl hd (fun w => by subst hv; simp only [execOp, hx]; simp [Instr.field, run_underlying hu, hf, asAgg, part, hs, hz]) c
theorem o_idxS {x y : Operand} {cs : List Value} {s len el sz : Nat} {k : IntKind} {i : Int} {v : Value} (hd : d < n) (hx : ev e x = .agg cs.toArray) (hy : ev e y = .int k i) (h0 : 0 ≤ i) (h1 : i < len) (hu : P.underlying s = some (.array len el))
    (hs : ∀ w, (isAgg el).run P w = .ok false w) (hz : ∀ w, (sizeOf el).run P w = .ok sz w) (hv : cs[i.toNat * sz]? = some v) (c : Ops P n ops rest (put e d v) H Φ) : Ops P n ops (⟨some d, .index s x y, ty, ps, af, none⟩ :: rest) e H Φ :=
  o_rfl hd (fun w => by simp only [execOp, hx, hy]; simp [Instr.index, asIntOf, run_underlying hu, h0, h1, part, hs, hz, hv]) c
theorem o_idxA {x y : Operand} {cs vs : List Value} {s len el sz : Nat} {k : IntKind} {i : Int} (hd : d < n) (hx : ev e x = .agg cs.toArray) (hy : ev e y = .int k i) (h0 : 0 ≤ i) (h1 : i < len) (hu : P.underlying s = some (.array len el))
    (hs : ∀ w, (isAgg el).run P w = .ok true w) (hz : ∀ w, (sizeOf el).run P w = .ok sz w) (hv : (cs.drop (i.toNat * sz)).take sz = vs) (c : Ops P n ops rest (put e d (.agg vs.toArray)) H Φ) : Ops P n ops (⟨some d, .index s x y, ty, ps, af, none⟩ :: rest) e H Φ :=
  o_rfl hd (fun w => by subst hv; simp only [execOp, hx, hy]; simp [Instr.index, asIntOf, run_underlying hu, h0, h1, part, hs, hz]) c
end Go.Proofs.YtffhbdgoikkngaaS
