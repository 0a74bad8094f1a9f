/- The rules of single operations. No seat's program is named here. -/
import Derived.Test.YtffhbdgoikkngaaSb
namespace Go.Proofs.YtffhbdgoikkngaaS
open Go.RowKit
set_option linter.unusedVariables false
set_option linter.unusedSimpArgs false

variable {P : Program} {n : Nat} {ops : Array Oper} {rest : List Oper} {e : Env} {H : HP} {Φ : Post} {d : Nat} {ty : TypeId} {ps : String} {af : Array Edge}

/-! ### Facts on types, one instance a type -/
class Sc (P : Program) (t : TypeId) (z : outParam Value) : Prop where
  agg : ∀ w, (isAgg t).run P w = .ok false w
  size : ∀ w, (sizeOf t).run P w = .ok 1 w
  zero : ∀ w, (zeroValue t).run P w = .ok z w
  one : z.oneCell' = true
class Ag (P : Program) (t : TypeId) (sz : outParam Nat) (z : outParam (List Value)) : Prop where
  agg : ∀ w, (isAgg t).run P w = .ok true w
  size : ∀ w, (sizeOf t).run P w = .ok sz w
  zero : ∀ w, (zeroValue t).run P w = .ok (.agg z.toArray) w
class Fld (P : Program) (s : TypeId) (i : Nat) (off : outParam Nat) : Prop where
  addr : ∀ a w, (Instr.fieldAt s (.pointer (some a)) i).run P w = .ok (.pointer (some (a.add off))) w
class Slc (P : Program) (st : TypeId) (el sz bt : outParam Nat) (z : outParam (List Value)) : Prop where
  und : P.underlying st = some (.slice el)
  size : ∀ w, (sizeOf el).run P w = .ok sz w
  inf : (P.info? el).map (fun i => (i.bytes, i.size, i.zero.map Value.cells)) = some (bt, sz, some z.toArray)
  zsz : z.length = sz
  pos : 0 < sz
theorem Slc.info {P : Program} {st el sz bt : Nat} {z : List Value} (f : Slc P st el sz bt z) : ∃ i v, P.info? el = some i ∧ i.bytes = bt ∧ i.size = sz ∧ i.zero = some v ∧ v.cells = z.toArray := by
  obtain ⟨i, hi, h⟩ := Option.map_eq_some_iff.1 f.inf
  simp only [Prod.mk.injEq] at h
  obtain ⟨v, hv, hc⟩ := Option.map_eq_some_iff.1 h.2.2
  exact ⟨i, v, hi, h.1, h.2.1, hv, hc⟩
class Arr (P : Program) (at_ : TypeId) (len el sz : outParam Nat) : Prop where
  und : P.underlying at_ = some (.array len el)
  size : ∀ w, (sizeOf el).run P w = .ok sz w

theorem oneCell_cells {v : Value} (h : v.oneCell' = true) : v.cells = #[v] := by cases v <;> first | rfl | cases h

/-! ### Operations that only reckon -/
theorem o_rfl {op : Op} {v : Value} (hd : d < n) (h : ∀ w, (execOp (ev e) ⟨some d, op, ty, ps, af, none⟩).run P w = .ok (.value v) w) (k : Ops P n ops rest (put e d v) H Φ) :
    Ops P n ops (⟨some d, op, ty, ps, af, none⟩ :: rest) e H Φ := ops_step rfl hd (T.ofRun h k)
theorem o_move {x : Operand} (hd : d < n) (k : Ops P n ops rest (put e d (ev e x)) H Φ) : Ops P n ops (⟨some d, .move x, ty, ps, af, none⟩ :: rest) e H Φ := o_rfl hd (fun _ => rfl) k
theorem o_assign {x : Operand} (hd : d < n) (k : Ops P n ops rest (put e d (ev e x)) H Φ) : Ops P n ops (⟨some d, .assign x, ty, ps, af, none⟩ :: rest) e H Φ := o_rfl hd (fun _ => rfl) k
theorem o_nil {x : Operand} {a : Addr} (hd : d < n) (hx : ev e x = .pointer (some a)) (k : Ops P n ops rest (put e d (.pointer (some a))) H Φ) : Ops P n ops (⟨some d, .nilCheck x, ty, ps, af, none⟩ :: rest) e H Φ :=
  o_rfl hd (fun w => by simp only [execOp, hx]; rfl) k
theorem o_nil_func {x : Operand} {f : FuncId} {c : Array Value} (hd : d < n) (hx : ev e x = .func (.func f) #[] c) (k : Ops P n ops rest (put e d (.func (.func f) #[] c)) H Φ) : Ops P n ops (⟨some d, .nilCheck x, ty, ps, af, none⟩ :: rest) e H Φ :=
  o_rfl hd (fun w => by simp only [execOp, hx]; rfl) k
/-- The whole numbers' operations, as their values. -/
def io (op : BinOp) (k : IntKind) (a b : Int) : Option Value :=
  match op with
  | .add => some (.int k (k.wrap (a + b)))
  | .sub => some (.int k (k.wrap (a - b)))
  | .mul => some (.int k (k.wrap (a * b)))
  | .and => some (.int k (bits .and k a b))
  | .or => some (.int k (bits .or k a b))
  | .xor => some (.int k (bits .xor k a b))
  | .andNot => some (.int k (bits .andNot k a b))
  | .eql => some (.bool (a == b))
  | .neq => some (.bool (a != b))
  | .lss => some (.bool (decide (a < b)))
  | .leq => some (.bool (decide (a ≤ b)))
  | .gtr => some (.bool (decide (a > b)))
  | .geq => some (.bool (decide (a ≥ b)))
  | _ => none
theorem o_int {x y : Operand} {op : BinOp} {k : IntKind} {a b : Int} {v : Value} {t u : TypeId} (hd : d < n) (hx : ev e x = .int k a) (hy : ev e y = .int k b) (hv : io op k a b = some v)
    (c : Ops P n ops rest (put e d v) H Φ) : Ops P n ops (⟨some d, .binOp op t x y u, ty, ps, af, none⟩ :: rest) e H Φ :=
  o_rfl hd (fun w => by
    simp only [execOp, hx, hy]
    cases op <;> simp only [io, Option.some.injEq, reduceCtorEq] at hv <;> subst hv <;> simp [eqGuard, binOp, Op.intArith, Op.intCmp, Op.intBits, bits]) c
theorem o_quo {x y : Operand} {k : IntKind} {a b : Int} {t u : TypeId} (hd : d < n) (hx : ev e x = .int k a) (hy : ev e y = .int k b) (h0 : b ≠ 0)
    (c : Ops P n ops rest (put e d (.int k (k.wrap (a.tdiv b)))) H Φ) : Ops P n ops (⟨some d, .binOp .quo t x y u, ty, ps, af, none⟩ :: rest) e H Φ :=
  o_rfl hd (fun w => by simp only [execOp, hx, hy]; simp [eqGuard, binOp, Op.intDiv, h0]) c
theorem o_rem {x y : Operand} {k : IntKind} {a b : Int} {t u : TypeId} (hd : d < n) (hx : ev e x = .int k a) (hy : ev e y = .int k b) (h0 : b ≠ 0)
    (c : Ops P n ops rest (put e d (.int k (a.tmod b))) H Φ) : Ops P n ops (⟨some d, .binOp .rem t x y u, ty, ps, af, none⟩ :: rest) e H Φ :=
  o_rfl hd (fun w => by simp only [execOp, hx, hy]; simp [eqGuard, binOp, Op.intDiv, h0]) c
theorem o_shl {x y : Operand} {k yk : IntKind} {a b : Int} {t u : TypeId} (hd : d < n) (hx : ev e x = .int k a) (hy : ev e y = .int yk b) (h0 : 0 ≤ b)
    (c : Ops P n ops rest (put e d (.int k (k.wrap (a * 2 ^ min b.toNat k.bits)))) H Φ) : Ops P n ops (⟨some d, .binOp .shl t x y u, ty, ps, af, none⟩ :: rest) e H Φ :=
  o_rfl hd (fun w => by simp only [execOp, hx, hy]; simp [eqGuard, binOp, Op.shift, Int.not_lt.2 h0]) c
theorem o_shr {x y : Operand} {k yk : IntKind} {a b : Int} {t u : TypeId} (hd : d < n) (hx : ev e x = .int k a) (hy : ev e y = .int yk b) (h0 : 0 ≤ b)
    (c : Ops P n ops rest (put e d (.int k (a.fdiv (2 ^ min b.toNat k.bits)))) H Φ) : Ops P n ops (⟨some d, .binOp .shr t x y u, ty, ps, af, none⟩ :: rest) e H Φ :=
  o_rfl hd (fun w => by simp only [execOp, hx, hy]; simp [eqGuard, binOp, Op.shift, Int.not_lt.2 h0]) c
theorem o_not {x : Operand} {b : Bool} {t : TypeId} (hd : d < n) (hx : ev e x = .bool b) (c : Ops P n ops rest (put e d (.bool !b)) H Φ) : Ops P n ops (⟨some d, .unOp .not t x, ty, ps, af, none⟩ :: rest) e H Φ :=
  o_rfl hd (fun w => by simp only [execOp, hx]; rfl) c
theorem o_neg {x : Operand} {k : IntKind} {a : Int} {t : TypeId} (hd : d < n) (hx : ev e x = .int k a) (c : Ops P n ops rest (put e d (.int k (k.wrap (0 - a)))) H Φ) : Ops P n ops (⟨some d, .unOp .neg t x, ty, ps, af, none⟩ :: rest) e H Φ :=
  o_rfl hd (fun w => by simp only [execOp, hx]; rfl) c
theorem o_cpl {x : Operand} {k : IntKind} {a : Int} {t : TypeId} (hd : d < n) (hx : ev e x = .int k a) (c : Ops P n ops rest (put e d (.int k (bits .xor k (if k.signed then -1 else k.max) a))) H Φ) : Ops P n ops (⟨some d, .unOp .xor t x, ty, ps, af, none⟩ :: rest) e H Φ :=
  o_rfl hd (fun w => by simp only [execOp, hx]; rfl) c
class IntT (P : Program) (t : TypeId) (k : outParam IntKind) : Prop where
  und : P.underlying t = some (.int k)
theorem o_conv {x : Operand} {k k0 : IntKind} {a : Int} {s t : TypeId} [i0 : IntT P s k0] [i : IntT P t k] (hd : d < n) (hx : ev e x = .int k0 a) (c : Ops P n ops rest (put e d (.int k (k.wrap a))) H Φ) : Ops P n ops (⟨some d, .convert s t x, ty, ps, af, none⟩ :: rest) e H Φ :=
  o_rfl hd (fun w => by simp only [execOp, hx]; simp [convert, run_underlying i0.und, run_underlying i.und, Conv.intToInt]) c
theorem o_extract {x : Operand} {l : List Value} {j : Nat} {v : Value} (hd : d < n) (hx : ev e x = .tuple l.toArray) (hj : l[j]? = some v) (c : Ops P n ops rest (put e d v) H Φ) : Ops P n ops (⟨some d, .extract x j, ty, ps, af, none⟩ :: rest) e H Φ :=
  o_rfl hd (fun w => by simp only [execOp, hx]; simp [Instr.extract, hj]) c
theorem o_fieldAddr {x : Operand} {a : Addr} {s i off : Nat} [f : Fld P s i off] (hd : d < n) (hx : ev e x = .pointer (some a)) (c : Ops P n ops rest (put e d (.pointer (some (a.add off)))) H Φ) :
    Ops P n ops (⟨some d, .fieldAddr s x i, ty, ps, af, none⟩ :: rest) e H Φ :=
  o_rfl hd (fun w => by simp only [execOp, hx]; simp [f.addr]) c
theorem add_none (b o k : Nat) : Addr.add ⟨b, o, none⟩ k = ⟨b, o + k, none⟩ := by
  unfold Addr.add; split
  · rename_i h; subst h; rfl
  · rfl
theorem o_fieldAddr' {x : Operand} {b o s i off : Nat} [f : Fld P s i off] (hd : d < n) (hx : ev e x = .pointer (some ⟨b, o, none⟩)) (c : Ops P n ops rest (put e d (.pointer (some ⟨b, o + off, none⟩))) H Φ) :
    Ops P n ops (⟨some d, .fieldAddr s x i, ty, ps, af, none⟩ :: rest) e H Φ := o_fieldAddr hd hx (by rw [add_none]; exact c)
theorem o_index {x y : Operand} {a : Addr} {len cap st el sz bt : Nat} {z : List Value} {k : IntKind} {i : Int} [f : Slc P st el sz bt z] (hd : d < n) (hx : ev e x = .slice (some a) len cap) (hy : ev e y = .int k i) (h0 : 0 ≤ i) (h1 : i < len)
    (c : Ops P n ops rest (put e d (.pointer (some (a.add (i.toNat * sz))))) H Φ) : Ops P n ops (⟨some d, .indexAddr st x y, ty, ps, af, none⟩ :: rest) e H Φ :=
  o_rfl hd (fun w => by simp only [execOp, hx, hy]; simp [Instr.indexAt, asIntOf, run_underlying f.und, f.size, h0, h1]) c
theorem o_index' {x y : Operand} {b o : Nat} {len cap st el sz bt : Nat} {z : List Value} {k : IntKind} {i : Int} [f : Slc P st el sz bt z] (hd : d < n) (hx : ev e x = .slice (some ⟨b, o, none⟩) len cap) (hy : ev e y = .int k i) (h0 : 0 ≤ i) (h1 : i < len)
    (c : Ops P n ops rest (put e d (.pointer (some ⟨b, o + i.toNat * sz, none⟩))) H Φ) : Ops P n ops (⟨some d, .indexAddr st x y, ty, ps, af, none⟩ :: rest) e H Φ := o_index hd hx hy h0 h1 (by rw [add_none]; exact c)
theorem o_indexA {x y : Operand} {b o : Nat} {len el sz at_ : Nat} {k : IntKind} {i : Int} [f : Arr P at_ len el sz] (hd : d < n) (hx : ev e x = .pointer (some ⟨b, o, none⟩)) (hy : ev e y = .int k i) (h0 : 0 ≤ i) (h1 : i < len)
    (c : Ops P n ops rest (put e d (.pointer (some ⟨b, o + i.toNat * sz, none⟩))) H Φ) : Ops P n ops (⟨some d, .indexAddr at_ x y, ty, ps, af, none⟩ :: rest) e H Φ :=
  o_rfl hd (fun w => by simp only [execOp, hx, hy]; simp [Instr.indexAt, asIntOf, run_underlying f.und, f.size, h0, h1, Instr.sureAddr, add_none]) c
theorem o_len {x : Operand} {a : Option Addr} {len cap st el sz bt : Nat} {z : List Value} {u : Array TypeId} [f : Slc P st el sz bt z] (hd : d < n) (hx : ev e x = .slice a len cap) (hu : u = #[st])
    (c : Ops P n ops rest (put e d (.int .i64 (len : Int))) H Φ) : Ops P n ops (⟨some d, .call ⟨.builtin .len, #[x], u⟩, ty, ps, af, none⟩ :: rest) e H Φ :=
  o_rfl hd (fun w => by subst hu; simp [execOp, resolve, invoke, builtin, hx, Builtin.len_, run_underlying f.und, goInt]) c
theorem o_min2 {x y : Operand} {k : IntKind} {a b : Int} {u : Array TypeId} (hd : d < n) (hx : ev e x = .int k a) (hy : ev e y = .int k b) (c : Ops P n ops rest (put e d (.int k (if b < a then b else a))) H Φ) :
    Ops P n ops (⟨some d, .call ⟨.builtin .min, #[x, y], u⟩, ty, ps, af, none⟩ :: rest) e H Φ :=
  o_rfl hd (fun w => by simp [execOp, resolve, invoke, builtin, hx, hy, Builtin.min_, Builtin.min2]) c
theorem o_max2 {x y : Operand} {k : IntKind} {a b : Int} {u : Array TypeId} (hd : d < n) (hx : ev e x = .int k a) (hy : ev e y = .int k b) (c : Ops P n ops rest (put e d (.int k (if b > a then b else a))) H Φ) :
    Ops P n ops (⟨some d, .call ⟨.builtin .max, #[x, y], u⟩, ty, ps, af, none⟩ :: rest) e H Φ :=
  o_rfl hd (fun w => by simp [execOp, resolve, invoke, builtin, hx, hy, Builtin.max_, Builtin.max2]) c

/-! ### Slices of slices: the bounds given -/
theorem o_slice {x : Operand} {a : Option Addr} {len cap st el sz bt : Nat} {z : List Value} {lo hi : Option Operand} {l h : Nat} [f : Slc P st el sz bt z] (hd : d < n) (hx : ev e x = .slice a len cap)
    (hh : match hi with | none => h = len | some y => ∃ k i, ev e y = .int k i ∧ 0 ≤ i ∧ i ≤ cap ∧ i.toNat = h) (hl : match lo with | none => l = 0 | some y => ∃ k i, ev e y = .int k i ∧ 0 ≤ i ∧ i ≤ h ∧ i.toNat = l)
    (c : Ops P n ops rest (put e d (.slice (if cap = l then a else a.map (·.add (l * sz))) (h - l) (cap - l))) H Φ) : Ops P n ops (⟨some d, .slice st x lo hi none, ty, ps, af, none⟩ :: rest) e H Φ :=
  o_rfl hd (fun w => by
    simp only [execOp, hx]
    have hb : (Instr.sliceBounds true len cap (lo.map (ev e)) (hi.map (ev e)) none).run P w = .ok (l, h, cap) w := by
      cases hi with
      | none =>
        subst hh
        cases lo with
        | none => subst hl; simp [Instr.sliceBounds]
        | some y => obtain ⟨k, i, h1, h2, h3, h4⟩ := hl; simp [Instr.sliceBounds, Instr.sliceBound, h1, asIntOf, h2, h3, h4]
      | some y0 =>
        obtain ⟨k0, i0, g1, g2, g3, g4⟩ := hh
        cases lo with
        | none => subst hl; simp [Instr.sliceBounds, Instr.sliceBound, g1, asIntOf, g2, g3, g4]
        | some y => obtain ⟨k, i, h1, h2, h3, h4⟩ := hl; simp [Instr.sliceBounds, Instr.sliceBound, g1, g2, g3, g4, h1, asIntOf, h2, h3, h4]
    simp [Instr.sliceAt, Instr.slice, run_underlying f.und, hb, f.size]) c
end Go.Proofs.YtffhbdgoikkngaaS
