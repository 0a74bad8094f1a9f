/- The small logic: whole numbers' operations, in regions whose order is drawn. -/
import Derived.Test.YtffhbdgoikkngaaSt
namespace Go.Proofs.YtffhbdgoikkngaaS
open Go.RowKit
set_option linter.unusedVariables false
variable {P : Program} {n : Nat} {ops : Array Oper} {rest : List Oper} {e : Env} {H : HP} {Φ : Post} {d : Nat} {ty : TypeId} {ps : String} {af : Array Edge} {K : Env → HP → Prop} {fuel : Nat} {listed : Array Bool}
theorem oa_int (i : Nat) {x y : Operand} {op : BinOp} {k : IntKind} {a b : Int} {v : Value} {t u : TypeId} (hi : ops[i]? = some ⟨some d, .binOp op t x y u, ty, ps, af, none⟩) (hns : Region.noSelect ops = true) (hfree : Region.free .any ops listed i = true) (hready : (Region.ready .any ops listed).contains i = true) (hd : d < n) (hx : ev e x = .int k a) (hy : ev e y = .int k b) (hv : io op k a b = some v)
    (c : OA P n ops fuel (listed.setIfInBounds i true) (put e d v) H K) : OA P n ops (fuel + 1) listed e H K := oa_first i hi hns hfree hready hd (fun w => by
    simp only [execOp, hx, hy]
    cases op <;> simp only [io, Option.some.injEq, reduceCtorEq] at hv <;> subst hv <;> simp [eqGuard, binOp, Op.intArith, Op.intCmp, Op.intBits, bits]) c
end Go.Proofs.YtffhbdgoikkngaaS
