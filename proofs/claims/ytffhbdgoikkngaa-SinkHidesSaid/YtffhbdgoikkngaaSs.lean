/- The small logic: a length, in regions whose order is drawn. -/
import Derived.Test.YtffhbdgoikkngaaSr
namespace Go.Proofs.YtffhbdgoikkngaaS
open Go.RowKit
set_option linter.unusedVariables false
variable {P : Program} {n : Nat} {ops : Array Oper} {rest : List Oper} {e : Env} {H : HP} {Φ : Post} {d : Nat} {ty : TypeId} {ps : String} {af : Array Edge} {K : Env → HP → Prop} {fuel : Nat} {listed : Array Bool}
theorem oa_len (i : Nat) {x : Operand} {a : Option Addr} {len cap st el sz bt : Nat} {z : List Value} {u : Array TypeId} [f : Slc P st el sz bt z] (hi : ops[i]? = some ⟨some d, .call ⟨.builtin .len, #[x], u⟩, ty, ps, af, none⟩) (hns : Region.noSelect ops = true) (hfree : Region.free .any ops listed i = true) (hready : (Region.ready .any ops listed).contains i = true) (hd : d < n) (hx : ev e x = .slice a len cap) (hu : u = #[st])
    (c : OA P n ops fuel (listed.setIfInBounds i true) (put e d (.int .i64 (len : Int))) H K) : OA P n ops (fuel + 1) listed e H K := oa_first i hi hns hfree hready hd (fun w => by subst hu; simp [execOp, resolve, invoke, builtin, hx, Builtin.len_, run_underlying f.und, goInt]) c
end Go.Proofs.YtffhbdgoikkngaaS
