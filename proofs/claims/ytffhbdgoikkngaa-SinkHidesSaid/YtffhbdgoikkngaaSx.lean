/- The small logic: fields of a row's elements. -/
import Derived.Test.YtffhbdgoikkngaaSw
namespace Go.Proofs.YtffhbdgoikkngaaS
open Go.RowKit
set_option linter.unusedVariables false
variable {P : Program} {n : Nat} {ops : Array Oper} {rest : List Oper} {e : Env} {H : HP} {Φ : Post} {d : Nat} {ty : TypeId} {ps : String} {af : Array Edge} {K : Env → HP → Prop} {fuel : Nat} {listed : Array Bool}
theorem o_fieldAddrS {x : Operand} {ad : Addr} {j s i off : Nat} [f : Fld P s i off] (hd : d < n) (hx : ev e x = .pointer (some (ad.add j))) (c : Ops P n ops rest (put e d (.pointer (some (ad.add (j + off))))) H Φ) :
    Ops P n ops (⟨some d, .fieldAddr s x i, ty, ps, af, none⟩ :: rest) e H Φ := o_fieldAddr hd hx (by rw [add_add]; exact c)
theorem oa_fieldS (i : Nat) {x : Operand} {ad : Addr} {k s j off : Nat} [f : Fld P s j off] (hi : ops[i]? = some ⟨some d, .fieldAddr s x j, ty, ps, af, none⟩) (hns : Region.noSelect ops = true) (hfree : Region.free .any ops listed i = true) (hready : (Region.ready .any ops listed).contains i = true) (hd : d < n) (hx : ev e x = .pointer (some (ad.add k)))
    (c : OA P n ops fuel (listed.setIfInBounds i true) (put e d (.pointer (some (ad.add (k + off))))) H K) : OA P n ops (fuel + 1) listed e H K := oa_first i hi hns hfree hready hd (fun w => by simp only [execOp, hx]; simp [f.addr, add_add]) c
theorem oa_indexS (i : Nat) {x y : Operand} {a : Addr} {len cap st el sz bt : Nat} {z : List Value} {k : IntKind} {m : Int} [f : Slc P st el sz bt z] (hi : ops[i]? = some ⟨some d, .indexAddr st x y, ty, ps, af, none⟩) (hns : Region.noSelect ops = true) (hfree : Region.free .any ops listed i = true) (hready : (Region.ready .any ops listed).contains i = true) (hd : d < n)
    (hx : ev e x = .slice (some a) len cap) (hy : ev e y = .int k m) (h0 : 0 ≤ m) (h1 : m < len)
    (c : OA P n ops fuel (listed.setIfInBounds i true) (put e d (.pointer (some (a.add (m.toNat * sz))))) H K) : OA P n ops (fuel + 1) listed e H K := oa_first i hi hns hfree hready hd (fun w => by simp only [execOp, hx, hy]; simp [Instr.indexAt, asIntOf, run_underlying f.und, f.size, h0, h1]) c
end Go.Proofs.YtffhbdgoikkngaaS
