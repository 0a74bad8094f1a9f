/- The small logic: pointers against nil, the least of three, and more operations that only reckon in regions whose order is drawn. -/
import Derived.Test.YtffhbdgoikkngaaSp
import Derived.Laws.Pointers
namespace Go.Proofs.YtffhbdgoikkngaaS
open Go.RowKit
set_option linter.unusedVariables false
set_option linter.unusedSimpArgs false
variable {P : Program} {n : Nat} {ops : Array Oper} {rest : List Oper} {e : Env} {H : HP} {Φ : Post} {d : Nat} {ty : TypeId} {ps : String} {af : Array Edge} {K : Env → HP → Prop} {fuel : Nat} {listed : Array Bool}
theorem o_eqPN {x : Operand} {p : Option Addr} {t u : TypeId} (hd : d < n) (hx : ev e x = .pointer p) (hu : P.underlying t = some (.pointer (P.pointee t))) (k : Ops P n ops rest (put e d (.bool p.isNone)) H Φ) :
    Ops P n ops (⟨some d, .binOp .eql t x (.const (.pointer none)) u, ty, ps, af, none⟩ :: rest) e H Φ :=
  o_rfl hd (fun w => by
    have hc : ev e (.const (.pointer none)) = .pointer none := rfl
    have hg : ∀ w, (eqGuard .eql t x (.const (.pointer none)) (.pointer p) (.pointer none)).run P w = .ok () w := fun _ => rfl
    simp only [execOp, hx, hc, Sem.run_bind, hg, run_eql_pointer_nil w t p hu, Result.andThen_ok]; rfl) k
theorem o_min3 {x y z : Operand} {k : IntKind} {a b c0 : Int} {u : Array TypeId} (hd : d < n) (hx : ev e x = .int k a) (hy : ev e y = .int k b) (hz : ev e z = .int k c0) (c : Ops P n ops rest (put e d (.int k (if c0 < (if b < a then b else a) then c0 else (if b < a then b else a)))) H Φ) :
    Ops P n ops (⟨some d, .call ⟨.builtin .min, #[x, y, z], u⟩, ty, ps, af, none⟩ :: rest) e H Φ :=
  o_rfl hd (fun w => by simp [execOp, resolve, invoke, builtin, hx, hy, hz, Builtin.min_, Builtin.min2]) c
instance (priority := 100) hasO_none (el sz : Nat) (H : HP) : HasO H el sz none 0 0 [] H := ⟨Ent.ow_none el sz H⟩
section
variable {x y : Operand}
theorem oa_nilc (i : Nat) {a : Addr} (hi : ops[i]? = some ⟨some d, .nilCheck x, ty, ps, af, none⟩) (hns : Region.noSelect ops = true) (hfree : Region.free .any ops listed i = true) (hready : (Region.ready .any ops listed).contains i = true) (hd : d < n) (hx : ev e x = .pointer (some a))
    (c : OA P n ops fuel (listed.setIfInBounds i true) (put e d (.pointer (some a))) H K) : OA P n ops (fuel + 1) listed e H K := oa_first i hi hns hfree hready hd (fun w => by simp only [execOp, hx]; rfl) c
theorem oa_field (i : Nat) {b o s j off : Nat} [f : Fld P s j off] (hi : ops[i]? = some ⟨some d, .fieldAddr s x j, ty, ps, af, none⟩) (hns : Region.noSelect ops = true) (hfree : Region.free .any ops listed i = true) (hready : (Region.ready .any ops listed).contains i = true) (hd : d < n) (hx : ev e x = .pointer (some ⟨b, o, none⟩))
    (c : OA P n ops fuel (listed.setIfInBounds i true) (put e d (.pointer (some ⟨b, o + off, none⟩))) H K) : OA P n ops (fuel + 1) listed e H K := oa_first i hi hns hfree hready hd (fun w => by simp only [execOp, hx]; simp [f.addr, add_none]) c
theorem oa_indexA (i : Nat) {b o : Nat} {len el sz at_ : Nat} {k : IntKind} {m : Int} [f : Arr P at_ len el sz] (hi : ops[i]? = some ⟨some d, .indexAddr at_ x y, ty, ps, af, none⟩) (hns : Region.noSelect ops = true) (hfree : Region.free .any ops listed i = true) (hready : (Region.ready .any ops listed).contains i = true) (hd : d < n) (hx : ev e x = .pointer (some ⟨b, o, none⟩)) (hy : ev e y = .int k m) (h0 : 0 ≤ m) (h1 : m < len)
    (c : OA P n ops fuel (listed.setIfInBounds i true) (put e d (.pointer (some ⟨b, o + m.toNat * sz, none⟩))) H K) : OA P n ops (fuel + 1) listed e H K := oa_first i hi hns hfree hready hd (fun w => by simp only [execOp, hx, hy]; simp [Instr.indexAt, asIntOf, run_underlying f.und, f.size, h0, h1, Instr.sureAddr, add_none]) c
end
end Go.Proofs.YtffhbdgoikkngaaS
