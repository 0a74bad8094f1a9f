/- Quiet twins of the rules, for regions that draw their order and only look; rows made, copied, written, cut. No seat's program is named here. -/
import Derived.Test.YtffhbdgoikkngaaSf
import Derived.KernelRfl
namespace Go.Proofs.YtffhbdgoikkngaaS
open Go.RowKit
set_option linter.unusedVariables false
set_option linter.unusedSimpArgs false

variable {P : Program} {n : Nat} {ops : Array Oper} {rest : List Oper} {e : Env} {H : HP} {Φ : Post} {d : Nat} {ty : TypeId} {ps : String} {af : Array Edge}

section
variable {K : Env → Prop}
theorem q_move {x : Operand} (hd : d < n) (k : QO P n ops rest (put e d (ev e x)) H K) : QO P n ops (⟨some d, .move x, ty, ps, af, none⟩ :: rest) e H K := q_rfl hd (fun _ => rfl) k
theorem q_assign {x : Operand} (hd : d < n) (k : QO P n ops rest (put e d (ev e x)) H K) : QO P n ops (⟨some d, .assign x, ty, ps, af, none⟩ :: rest) e H K := q_rfl hd (fun _ => rfl) k
theorem q_nilc {x : Operand} {a : Addr} (hd : d < n) (hx : ev e x = .pointer (some a)) (k : QO P n ops rest (put e d (.pointer (some a))) H K) : QO P n ops (⟨some d, .nilCheck x, ty, ps, af, none⟩ :: rest) e H K :=
  q_rfl hd (fun w => by simp only [execOp, hx]; rfl) k
theorem q_nilf {x : Operand} {f : FuncId} {c : Array Value} (hd : d < n) (hx : ev e x = .func (.func f) #[] c) (k : QO P n ops rest (put e d (.func (.func f) #[] c)) H K) : QO P n ops (⟨some d, .nilCheck x, ty, ps, af, none⟩ :: rest) e H K :=
  q_rfl hd (fun w => by simp only [execOp, hx]; rfl) k
/-- The whole numbers' operations, as their values. -/
theorem q_int {x y : Operand} {op : BinOp} {k : IntKind} {a b : Int} {v : Value} {t u : TypeId} (hd : d < n) (hx : ev e x = .int k a) (hy : ev e y = .int k b) (hv : io op k a b = some v)
    (c : QO P n ops rest (put e d v) H K) : QO P n ops (⟨some d, .binOp op t x y u, ty, ps, af, none⟩ :: rest) e H K :=
  q_rfl hd (fun w => by
    simp only [execOp, hx, hy]
    cases op <;> simp only [io, Option.some.injEq, reduceCtorEq] at hv <;> subst hv <;> simp [eqGuard, binOp, Op.intArith, Op.intCmp, Op.intBits, bits]) c
theorem q_quo {x y : Operand} {k : IntKind} {a b : Int} {t u : TypeId} (hd : d < n) (hx : ev e x = .int k a) (hy : ev e y = .int k b) (h0 : b ≠ 0)
    (c : QO P n ops rest (put e d (.int k (k.wrap (a.tdiv b)))) H K) : QO P n ops (⟨some d, .binOp .quo t x y u, ty, ps, af, none⟩ :: rest) e H K :=
  q_rfl hd (fun w => by simp only [execOp, hx, hy]; simp [eqGuard, binOp, Op.intDiv, h0]) c
theorem q_rem {x y : Operand} {k : IntKind} {a b : Int} {t u : TypeId} (hd : d < n) (hx : ev e x = .int k a) (hy : ev e y = .int k b) (h0 : b ≠ 0)
    (c : QO P n ops rest (put e d (.int k (a.tmod b))) H K) : QO P n ops (⟨some d, .binOp .rem t x y u, ty, ps, af, none⟩ :: rest) e H K :=
  q_rfl hd (fun w => by simp only [execOp, hx, hy]; simp [eqGuard, binOp, Op.intDiv, h0]) c
theorem q_shl {x y : Operand} {k yk : IntKind} {a b : Int} {t u : TypeId} (hd : d < n) (hx : ev e x = .int k a) (hy : ev e y = .int yk b) (h0 : 0 ≤ b)
    (c : QO P n ops rest (put e d (.int k (k.wrap (a * 2 ^ min b.toNat k.bits)))) H K) : QO P n ops (⟨some d, .binOp .shl t x y u, ty, ps, af, none⟩ :: rest) e H K :=
  q_rfl hd (fun w => by simp only [execOp, hx, hy]; simp [eqGuard, binOp, Op.shift, Int.not_lt.2 h0]) c
theorem q_shr {x y : Operand} {k yk : IntKind} {a b : Int} {t u : TypeId} (hd : d < n) (hx : ev e x = .int k a) (hy : ev e y = .int yk b) (h0 : 0 ≤ b)
    (c : QO P n ops rest (put e d (.int k (a.fdiv (2 ^ min b.toNat k.bits)))) H K) : QO P n ops (⟨some d, .binOp .shr t x y u, ty, ps, af, none⟩ :: rest) e H K :=
  q_rfl hd (fun w => by simp only [execOp, hx, hy]; simp [eqGuard, binOp, Op.shift, Int.not_lt.2 h0]) c
theorem q_not {x : Operand} {b : Bool} {t : TypeId} (hd : d < n) (hx : ev e x = .bool b) (c : QO P n ops rest (put e d (.bool !b)) H K) : QO P n ops (⟨some d, .unOp .not t x, ty, ps, af, none⟩ :: rest) e H K :=
  q_rfl hd (fun w => by simp only [execOp, hx]; rfl) c
theorem q_neg {x : Operand} {k : IntKind} {a : Int} {t : TypeId} (hd : d < n) (hx : ev e x = .int k a) (c : QO P n ops rest (put e d (.int k (k.wrap (0 - a)))) H K) : QO P n ops (⟨some d, .unOp .neg t x, ty, ps, af, none⟩ :: rest) e H K :=
  q_rfl hd (fun w => by simp only [execOp, hx]; rfl) c
theorem q_cpl {x : Operand} {k : IntKind} {a : Int} {t : TypeId} (hd : d < n) (hx : ev e x = .int k a) (c : QO P n ops rest (put e d (.int k (bits .xor k (if k.signed then -1 else k.max) a))) H K) : QO P n ops (⟨some d, .unOp .xor t x, ty, ps, af, none⟩ :: rest) e H K :=
  q_rfl hd (fun w => by simp only [execOp, hx]; rfl) c
theorem q_conv {x : Operand} {k k0 : IntKind} {a : Int} {s t : TypeId} [i0 : IntT P s k0] [i : IntT P t k] (hd : d < n) (hx : ev e x = .int k0 a) (c : QO P n ops rest (put e d (.int k (k.wrap a))) H K) : QO P n ops (⟨some d, .convert s t x, ty, ps, af, none⟩ :: rest) e H K :=
  q_rfl hd (fun w => by simp only [execOp, hx]; simp [convert, run_underlying i0.und, run_underlying i.und, Conv.intToInt]) c
theorem q_extract {x : Operand} {l : List Value} {j : Nat} {v : Value} (hd : d < n) (hx : ev e x = .tuple l.toArray) (hj : l[j]? = some v) (c : QO P n ops rest (put e d v) H K) : QO P n ops (⟨some d, .extract x j, ty, ps, af, none⟩ :: rest) e H K :=
  q_rfl hd (fun w => by simp only [execOp, hx]; simp [Instr.extract, hj]) c
theorem q_fieldAddr {x : Operand} {a : Addr} {s i off : Nat} [f : Fld P s i off] (hd : d < n) (hx : ev e x = .pointer (some a)) (c : QO P n ops rest (put e d (.pointer (some (a.add off)))) H K) :
    QO P n ops (⟨some d, .fieldAddr s x i, ty, ps, af, none⟩ :: rest) e H K :=
  q_rfl hd (fun w => by simp only [execOp, hx]; simp [f.addr]) c
theorem q_fieldAddr' {x : Operand} {b o s i off : Nat} [f : Fld P s i off] (hd : d < n) (hx : ev e x = .pointer (some ⟨b, o, none⟩)) (c : QO P n ops rest (put e d (.pointer (some ⟨b, o + off, none⟩))) H K) :
    QO P n ops (⟨some d, .fieldAddr s x i, ty, ps, af, none⟩ :: rest) e H K := q_fieldAddr hd hx (by rw [add_none]; exact c)
theorem q_index {x y : Operand} {a : Addr} {len cap st el sz bt : Nat} {z : List Value} {k : IntKind} {i : Int} [f : Slc P st el sz bt z] (hd : d < n) (hx : ev e x = .slice (some a) len cap) (hy : ev e y = .int k i) (h0 : 0 ≤ i) (h1 : i < len)
    (c : QO P n ops rest (put e d (.pointer (some (a.add (i.toNat * sz))))) H K) : QO P n ops (⟨some d, .indexAddr st x y, ty, ps, af, none⟩ :: rest) e H K :=
  q_rfl hd (fun w => by simp only [execOp, hx, hy]; simp [Instr.indexAt, asIntOf, run_underlying f.und, f.size, h0, h1]) c
theorem q_index' {x y : Operand} {b o : Nat} {len cap st el sz bt : Nat} {z : List Value} {k : IntKind} {i : Int} [f : Slc P st el sz bt z] (hd : d < n) (hx : ev e x = .slice (some ⟨b, o, none⟩) len cap) (hy : ev e y = .int k i) (h0 : 0 ≤ i) (h1 : i < len)
    (c : QO P n ops rest (put e d (.pointer (some ⟨b, o + i.toNat * sz, none⟩))) H K) : QO P n ops (⟨some d, .indexAddr st x y, ty, ps, af, none⟩ :: rest) e H K := q_index hd hx hy h0 h1 (by rw [add_none]; exact c)
theorem q_indexA {x y : Operand} {b o : Nat} {len el sz at_ : Nat} {k : IntKind} {i : Int} [f : Arr P at_ len el sz] (hd : d < n) (hx : ev e x = .pointer (some ⟨b, o, none⟩)) (hy : ev e y = .int k i) (h0 : 0 ≤ i) (h1 : i < len)
    (c : QO P n ops rest (put e d (.pointer (some ⟨b, o + i.toNat * sz, none⟩))) H K) : QO P n ops (⟨some d, .indexAddr at_ x y, ty, ps, af, none⟩ :: rest) e H K :=
  q_rfl hd (fun w => by simp only [execOp, hx, hy]; simp [Instr.indexAt, asIntOf, run_underlying f.und, f.size, h0, h1, Instr.sureAddr, add_none]) c
theorem q_len {x : Operand} {a : Option Addr} {len cap st el sz bt : Nat} {z : List Value} {u : Array TypeId} [f : Slc P st el sz bt z] (hd : d < n) (hx : ev e x = .slice a len cap) (hu : u = #[st])
    (c : QO P n ops rest (put e d (.int .i64 (len : Int))) H K) : QO P n ops (⟨some d, .call ⟨.builtin .len, #[x], u⟩, ty, ps, af, none⟩ :: rest) e H K :=
  q_rfl hd (fun w => by subst hu; simp [execOp, resolve, invoke, builtin, hx, Builtin.len_, run_underlying f.und, goInt]) c
theorem q_min2 {x y : Operand} {k : IntKind} {a b : Int} {u : Array TypeId} (hd : d < n) (hx : ev e x = .int k a) (hy : ev e y = .int k b) (c : QO P n ops rest (put e d (.int k (if b < a then b else a))) H K) :
    QO P n ops (⟨some d, .call ⟨.builtin .min, #[x, y], u⟩, ty, ps, af, none⟩ :: rest) e H K :=
  q_rfl hd (fun w => by simp [execOp, resolve, invoke, builtin, hx, hy, Builtin.min_, Builtin.min2]) c
theorem q_max2 {x y : Operand} {k : IntKind} {a b : Int} {u : Array TypeId} (hd : d < n) (hx : ev e x = .int k a) (hy : ev e y = .int k b) (c : QO P n ops rest (put e d (.int k (if b > a then b else a))) H K) :
    QO P n ops (⟨some d, .call ⟨.builtin .max, #[x, y], u⟩, ty, ps, af, none⟩ :: rest) e H K :=
  q_rfl hd (fun w => by simp [execOp, resolve, invoke, builtin, hx, hy, Builtin.max_, Builtin.max2]) c
theorem q_mv {x : Operand} {v : Value} (hd : d < n) (hx : ev e x = v) (k : QO P n ops rest (put e d v) H K) : QO P n ops (⟨some d, .move x, ty, ps, af, none⟩ :: rest) e H K := q_move hd (by rw [hx]; exact k)
theorem q_as {x : Operand} {v : Value} (hd : d < n) (hx : ev e x = v) (k : QO P n ops rest (put e d v) H K) : QO P n ops (⟨some d, .assign x, ty, ps, af, none⟩ :: rest) e H K := q_assign hd (by rw [hx]; exact k)
theorem q_load_s {t : TypeId} {z : Value} {x : Operand} {b o : Nat} {v : Value} {p l t' fr R} [c : Sc P t z] [hl : HasL H b p l t' fr R] (hd : d < n) (hx : ev e x = .pointer (some ⟨b, o, none⟩)) (hv : l[o]? = some v)
    (k : QO P n ops rest (put e d v) H K) : QO P n ops (⟨some d, .load t x, ty, ps, af, none⟩ :: rest) e H K :=
  q_ofV (v := v) hd (fun w0 w F s => by
    have hc := cell_at (has_heap (b := b) s) o
    rw [hv] at hc
    simp only [execOp, hx]
    simp [Instr.loadAt, Instr.sureAddr, v_loadVar_s hc]) k
theorem q_load_a {t sz : Nat} {z : List Value} {x : Operand} {b o : Nat} {vs : List Value} {p l t' fr R} [c : Ag P t sz z] [hl : HasL H b p l t' fr R] (hd : d < n) (hx : ev e x = .pointer (some ⟨b, o, none⟩)) (hv : sub l o sz = some vs)
    (k : QO P n ops rest (put e d (.agg vs.toArray)) H K) : QO P n ops (⟨some d, .load t x, ty, ps, af, none⟩ :: rest) e H K :=
  q_ofV hd (v := .agg vs.toArray) (fun w0 w F s => by
    obtain ⟨h1, h2⟩ := sub_len hv
    have hc : ∀ j v, vs[j]? = some v → w.cell? ((⟨b, o, none⟩ : Addr).add j) = some v := fun j v hj => by
      have hlt : j < sz := by rw [← h1]; exact (List.getElem?_eq_some_iff.1 hj).1
      rw [add_none, cell_at (has_heap (b := b) s), ← h2 j hlt, hj]
    simp only [execOp, hx]
    simp [Instr.loadAt, Instr.sureAddr, v_loadVar_a h1 hc]) k
theorem q_load_r {t : TypeId} {z : Value} {x : Operand} {ad : Addr} {j : Nat} {v : Value} {l} [c : Sc P t z] [hr : RdC H (some ad) l] (hd : d < n) (hx : ev e x = .pointer (some (ad.add j))) (hv : l[j]? = some v)
    (k : QO P n ops rest (put e d v) H K) : QO P n ops (⟨some d, .load t x, ty, ps, af, none⟩ :: rest) e H K :=
  q_ofV hd (v := v) (fun w0 w F s => by
    obtain ⟨ad', ha, hc⟩ := hr.rd w0 w F s j v hv
    cases ha
    simp only [execOp, hx]
    simp [Instr.loadAt, Instr.sureAddr, v_loadVar_s hc]) k
theorem q_load_ra {t sz : Nat} {z : List Value} {x : Operand} {ad : Addr} {j : Nat} {vs : List Value} {l} [c : Ag P t sz z] [hr : RdC H (some ad) l] (hd : d < n) (hx : ev e x = .pointer (some (ad.add j))) (hv : sub l j sz = some vs)
    (k : QO P n ops rest (put e d (.agg vs.toArray)) H K) : QO P n ops (⟨some d, .load t x, ty, ps, af, none⟩ :: rest) e H K :=
  q_ofV hd (v := .agg vs.toArray) (fun w0 w F s => by
    obtain ⟨h1, h2⟩ := sub_len hv
    have hc : ∀ i v, vs[i]? = some v → w.cell? ((ad.add j).add i) = some v := fun i v hi => by
      have hlt : i < sz := by rw [← h1]; exact (List.getElem?_eq_some_iff.1 hi).1
      obtain ⟨ad', ha, hc⟩ := hr.rd w0 w F s (j + i) v (by rw [← h2 i hlt, hi])
      cases ha
      rw [add_add]; exact hc
    simp only [execOp, hx]
    simp [Instr.loadAt, Instr.sureAddr, v_loadVar_a h1 hc]) k
end
theorem ex_quietk {id : Nat} {l : List Oper} {ts : List Nat} [m : Mixed P] (hB : Region.lexB .any l.toArray = true) (h : QO P n l.toArray l e H (fun e' => keepP ts Φ .normal e' H)) : Ex P n (.region id l.toArray true) e H Φ := keep_mono (ex_quiet hB h)
theorem q_nilk {ts : List Nat} (h : ∀ g, keepN ts e g (fun e' => Φ .normal e' H)) : QO P n ops [] e H (fun e' => keepP ts Φ .normal e' H) := q_nil ⟨rfl, h⟩

/-! ### Rows made -/
theorem o_make {st el sz bt m : Nat} {z : List Value} {x y : Operand} {kl kc : IntKind} [f : Slc P st el sz bt z] (hd : d < n) (hx : ev e x = .int kl (m : Int)) (hy : ev e y = .int kc (m : Int)) (hb : bt * m ≤ 281474976710656) (hm : m ≤ maxLen)
    (k : ∀ b, Ops P n ops rest (put e d (.slice (some ⟨b, 0, none⟩) m m)) (ow el sz (some ⟨b, 0, none⟩) m m (reps m z) * H) Φ) : Ops P n ops (⟨some d, .makeSlice st x y, ty, ps, af, none⟩ :: rest) e H Φ :=
  ops_step rfl hd fun w0 w F s => by
    obtain ⟨i, v, hi, hbt, hsz, hzv, hzc⟩ := f.info
    have hpos := f.pos
    have hzl := f.zsz
    have s1 := s.alloc (.cells (reps m z).toArray el)
    have hb2 : (i.bytes : Int) * (m : Int) ≤ 281474976710656 := by
      have h3 : ((bt * m : Nat) : Int) ≤ 281474976710656 := by omega
      rw [hbt]; rwa [Int.natCast_mul] at h3
    have h63 : (m : Int) ≤ 9223372036854775807 := by simp only [maxLen] at hm; omega
    have hr := run_make (P := P) w st el i v f.und hi hzv kl kc m m (by omega) (by omega) hb2 h63
    have hmc : madeCells v.cells ((m : Int).toNat * i.size) = (reps m z).toArray := by
      rw [hzc, hsz, Int.toNat_natCast]
      have := made_eq m z (by omega)
      rw [hzl] at this
      exact this
    rw [hmc] at hr
    simp only [Int.toNat_natCast] at hr
    refine ⟨Next.value (.slice (some ⟨w.heap.size, 0, none⟩) m m), w.alloc (.cells (reps m z).toArray el), _, ?_, k w.heap.size, ?_⟩
    · simp only [execOp, hx, hy]
      rw [Sem.run_bind, hr]; rfl
    · rw [sep_assoc]
      have hlen : (reps m z).length = m * sz := by rw [reps_len, hzl]
      have := ow_of_cl (el := el) (sz := sz) (m := m) (l := reps m z) (g := w.heap.size) hlen hm
      exact this w0 _ (H * F) s1

/-! ### Owned rows written, copied into -/
class HasOA (H : HP) (ad : Addr) (el sz m cap : outParam Nat) (l : outParam (List Value)) (R : outParam HP) : Prop where eq : H = ow el sz (some ad) m cap l * R
instance (priority := 1000) hasOA_h (el sz ad m cap l R) : HasOA (ow el sz (some ad) m cap l * R) ad el sz m cap l R := ⟨rfl⟩
instance (priority := 900) hasOA_1 (el sz ad m cap l) : HasOA (ow el sz (some ad) m cap l) ad el sz m cap l 1 := ⟨(sep_one _).symm⟩
instance (priority := 500) hasOA_t (A H ad el sz m cap l R) [h : HasOA H ad el sz m cap l R] : HasOA (A * H) ad el sz m cap l (A * R) := ⟨by rw [h.eq, sep_left_comm]⟩
theorem spl_append : ∀ (l : List Value) (o : Nat) (vs rest : List Value), o + vs.length ≤ l.length → spl (l ++ rest) o vs = spl l o vs ++ rest
  | l, 0, [], rest, _ => by cases l <;> cases rest <;> rfl
  | [], 0, v :: vs, rest, h => by simp at h
  | [], o + 1, vs, rest, h => by simp at h
  | x :: l, 0, v :: vs, rest, h => by
    have := spl_append l 0 vs rest (by simpa using h)
    simp [spl, this]
  | x :: l, o + 1, vs, rest, h => by
    have := spl_append l o vs rest (by simp at h; omega)
    simp [spl, this]
theorem take_spl {l cur vs : List Value} {j k : Nat} (h : cur.take k = l) (hl : l.length = k) (hf : j + vs.length ≤ l.length) : (spl cur j vs).take k = spl l j vs := by
  have e : cur = l ++ cur.drop k := by rw [← h, List.take_append_drop]
  rw [e, spl_append _ _ _ _ hf, ← hl, ← spl_len l j vs hf]
  exact List.take_left
theorem ow_store {el sz : Nat} {ad : Addr} {m cap : Nat} {l vs : List Value} {w0 w : World} {F : HP} {t : TypeId} {v : Value} {j : Nat} (s : Sat w0 w (ow el sz (some ad) m cap l * F)) (hs : (sizeOf t).run P w = .ok vs.length w) (hc : v.cells = vs.toArray)
    (h1 : ∀ u ∈ vs, u.oneCell' = true) (hf : j + vs.length ≤ l.length) (hne : 0 < vs.length) : ∃ w', (storeVar t (ad.add j) v).run P w = .ok () w' ∧ Sat w0 w' (ow el sz (some ad) m cap (spl l j vs) * F) := by
  obtain ⟨hlen, hmc, hcm, hcase⟩ := ow_cases s
  rcases hcase with ⟨hc0, _⟩ | ⟨g, cur, ha, hcur, htake, sg⟩
  · have hm0 : m = 0 := by omega
    have hl0 : l.length = 0 := by rw [hlen, hm0]; simp
    omega
  · cases ha
    have hle : l.length ≤ cur.length := by rw [← htake, List.length_take]; omega
    have hr := run_storeVar (P := P) (t := t) (v := v) (vs := vs) (o := 0 + j) hs hc rfl h1 sg.heapCl (by omega)
    rw [add_none]
    refine ⟨_, hr, ow_mk (cur := spl cur (0 + j) vs) ?_ hmc hcm ?_ ?_ sg.setRow⟩
    · rw [spl_len _ _ _ hf]; exact hlen
    · rw [spl_len _ _ _ (by omega)]; exact hcur
    · rw [Nat.zero_add]; exact take_spl htake hlen hf
theorem o_store_os {t : TypeId} {z : Value} {x y : Operand} {ad : Addr} {j : Nat} {v : Value} {el sz m cap l R} [c : Sc P t z] [ho : HasOA H ad el sz m cap l R] (hx : ev e x = .pointer (some (ad.add j))) (hy : ev e y = v) (h1 : v.oneCell' = true) (hf : j < l.length)
    (k : Ops P n ops rest e (ow el sz (some ad) m cap (spl l j [v]) * R) Φ) : Ops P n ops (⟨none, .store t x y, ty, ps, af, none⟩ :: rest) e H Φ :=
  ops_step rfl trivial fun w0 w F s => by
    rw [ho.eq, sep_assoc] at s
    obtain ⟨w', hr, s'⟩ := ow_store (P := P) (t := t) (v := v) (vs := [v]) (j := j) s (c.size w) (oneCell_cells h1) (by simpa using h1) (by simp only [List.length_cons, List.length_nil]; omega) (by simp)
    refine ⟨.skip, w', _, ?_, k, by rw [sep_assoc]; exact s'⟩
    simp only [execOp, hx, hy]
    simp [Instr.storeAt, Instr.sureAddr, hr]
theorem o_store_oa {t sz' : Nat} {z : List Value} {x y : Operand} {ad : Addr} {j : Nat} {vs : List Value} {el sz m cap l R} [c : Ag P t sz' z] [ho : HasOA H ad el sz m cap l R] (hx : ev e x = .pointer (some (ad.add j))) (hy : ev e y = .agg vs.toArray) (hs : vs.length = sz') (hpos : 0 < vs.length)
    (h1 : vs.all (·.oneCell') = true) (hf : j + vs.length ≤ l.length)
    (k : Ops P n ops rest e (ow el sz (some ad) m cap (spl l j vs) * R) Φ) : Ops P n ops (⟨none, .store t x y, ty, ps, af, none⟩ :: rest) e H Φ :=
  ops_step rfl trivial fun w0 w F s => by
    rw [ho.eq, sep_assoc] at s
    obtain ⟨w', hr, s'⟩ := ow_store (P := P) (t := t) (v := .agg vs.toArray) (vs := vs) (j := j) s (by rw [hs]; exact c.size w) rfl (by simpa using h1) hf hpos
    refine ⟨.skip, w', _, ?_, k, by rw [sep_assoc]; exact s'⟩
    simp only [execOp, hx, hy]
    simp [Instr.storeAt, Instr.sureAddr, hr]
theorem ow_storeCells {el sz : Nat} {ad : Addr} {m cap : Nat} {l vs : List Value} {w0 w : World} {F : HP} (s : Sat w0 w (ow el sz (some ad) m cap l * F)) (h1 : ∀ u ∈ vs, u.oneCell' = true) (hf : vs.length ≤ l.length) :
    ∃ w', (storeCells ad vs).run P w = .ok () w' ∧ Sat w0 w' (ow el sz (some ad) m cap (spl l 0 vs) * F) := by
  obtain ⟨hlen, hmc, hcm, hcase⟩ := ow_cases s
  rcases hcase with ⟨hc0, _⟩ | ⟨g, cur, ha, hcur, htake, sg⟩
  · have hm0 : m = 0 := by omega
    have hl0 : l = [] := List.eq_nil_of_length_eq_zero (by rw [hlen, hm0]; simp)
    subst hl0
    have : vs = [] := List.eq_nil_of_length_eq_zero (by simpa using hf)
    subst this
    exact ⟨w, rfl, by simpa [spl] using s⟩
  · cases ha
    have hle : l.length ≤ cur.length := by rw [← htake, List.length_take]; omega
    have hr := run_storeCells_at P g 0 el vs 0 cur.toArray w sg.heapCl (by simp; omega) h1
    have e1 : cur.toArray.toList.take (0 + 0) ++ vs ++ cur.toArray.toList.drop (0 + 0 + vs.length) = spl cur 0 vs := by
      rw [spl_eq _ _ _ (by omega)]
    rw [e1] at hr
    refine ⟨_, hr, ow_mk (cur := spl cur 0 vs) ?_ hmc hcm ?_ ?_ sg.setRow⟩
    · rw [spl_len _ _ _ (by omega)]; exact hlen
    · rw [spl_len _ _ _ (by omega)]; exact hcur
    · exact take_spl htake hlen (by omega)
/-- 'copy' of a whole row into one that is owned and no shorter. -/
theorem o_copy {x y : Operand} {st el sz bt : Nat} {z : List Value} [f : Slc P st el sz bt z] {a b : Option Addr} {m cap k ck : Nat} {l news : List Value} {R : HP} {u : Array TypeId} (hd : d < n) (hx : ev e x = .slice a m cap) (hy : ev e y = .slice b k ck) (hu : u = #[st, st])
    [ho : HasO H el sz a m cap l R] [hrd : RdC R b news] (hl : news.length = k * sz) (h1 : ∀ v ∈ news, v.oneCell' = true) (hk : k ≤ m)
    (c : Ops P n ops rest (put e d (.int .i64 (k : Int))) (ow el sz a m cap (spl l 0 news) * R) Φ) : Ops P n ops (⟨some d, .call ⟨.builtin .copy, #[x, y], u⟩, ty, ps, af, none⟩ :: rest) e H Φ :=
  ops_step rfl hd fun w0 w F s => by
    subst hu
    have s1 := ho.ent _ _ _ s
    rw [sep_assoc] at s1
    have sR := s1.drop
    have hlen := (ow_cases s1).1
    have hfc : (Builtin.firstCells sz k (.slice b k ck)).run P w = .ok news.toArray w := by
      by_cases hk0 : news.length = 0
      · have : news = [] := List.eq_nil_of_length_eq_zero hk0
        subst this
        cases b with
        | none => simp [Builtin.firstCells]
        | some b =>
          have h0 : k * sz = 0 := by rw [← hl]; rfl
          simp [Builtin.firstCells, h0, loadCells, loadCellsFrom]
      · obtain ⟨bd, rfl⟩ := hrd.rd.some (by omega) sR
        refine run_firstCells_some (P := P) w sz k bd k ck news hl (fun j v hj => ?_)
        obtain ⟨ad, ha, hc⟩ := hrd.rd w0 w F sR j v hj
        cases ha; exact hc
    have hmin : Nat.min k m = k := Nat.min_eq_left hk
    cases a with
    | none =>
      have hn : news = [] := by
        rcases (ow_cases s1).2.2.2 with ⟨hc0, _⟩ | ⟨g, cur, ha, _⟩
        · have := (ow_cases s1).2.1
          have hk0 : k = 0 := by omega
          exact List.eq_nil_of_length_eq_zero (by rw [hl, hk0]; simp)
        · cases ha
      subst hn
      have hsp : spl l 0 [] = l := by cases l <;> rfl
      refine ⟨Next.value (.int .i64 (k : Int)), w, ow el sz none m cap (spl l 0 []) * R, ?_, c, by rw [hsp, sep_assoc]; exact s1⟩
      simp [execOp, resolve, invoke, builtin, hx, hy, Builtin.copy_, run_underlying f.und, Builtin.lenOf, hmin, f.size, hfc, goInt]
    | some ad =>
      have hle : news.length ≤ l.length := by rw [hl, hlen]; exact Nat.mul_le_mul_right _ hk
      obtain ⟨w', hr, s'⟩ := ow_storeCells (P := P) s1 h1 hle
      refine ⟨Next.value (.int .i64 (k : Int)), w', ow el sz (some ad) m cap (spl l 0 news) * R, ?_, c, by rw [sep_assoc]; exact s'⟩
      simp [execOp, resolve, invoke, builtin, hx, hy, Builtin.copy_, run_underlying f.und, Builtin.lenOf, hmin, f.size, hfc, hr, goInt]

/-! ### Read rows cut -/
theorem RdP.cut {a l} {lo hi : Nat} (h : RdP H a l) (b : Bool) : RdP H (if b = true then a else a.map (·.add lo)) (if b = true then [] else (l.drop lo).take hi) := fun w0 w F s j v hj => by
  cases b with
  | true => simp at hj
  | false =>
    simp only [Bool.false_eq_true, if_false, List.getElem?_take] at hj ⊢
    split at hj
    · obtain ⟨ad, ha, hc⟩ := h w0 w F s (lo + j) v (by rw [← hj]; simp)
      subst ha
      exact ⟨_, rfl, by rw [add_add]; exact hc⟩
    · cases hj
/-- A piece of a row that is read: its own name for its place, and what it reads in whatever memory the whole is read. -/
theorem o_slice_r {x : Operand} {a : Option Addr} {len cap st el sz bt : Nat} {z : List Value} {lo hi : Option Operand} {l h : Nat} {cs : List Value} [f : Slc P st el sz bt z] [hrd : RdC H a cs] (hd : d < n) (hx : ev e x = .slice a len cap)
    (hh : match hi with | none => h = len | some y => ∃ k i, ev e y = .int k i ∧ 0 ≤ i ∧ i ≤ cap ∧ i.toNat = h) (hl : match lo with | none => l = 0 | some y => ∃ k i, ev e y = .int k i ∧ 0 ≤ i ∧ i ≤ h ∧ i.toNat = l) (hc : h ≤ cap)
    (c : ∀ a', (∀ H' [RdC H' a cs], RdC H' a' ((cs.drop (l * sz)).take ((h - l) * sz))) → Ops P n ops rest (put e d (.slice a' (h - l) (cap - l))) H Φ) : Ops P n ops (⟨some d, .slice st x lo hi none, ty, ps, af, none⟩ :: rest) e H Φ := by
  refine o_slice (l := l) (h := h) hd hx hh hl (c _ (fun H' hr => ⟨?_⟩))
  by_cases hcl : cap = l
  · have h0 : h - l = 0 := by omega
    rw [if_pos hcl, h0]
    simp only [Nat.zero_mul, List.take_zero]
    exact fun _ _ _ _ j v hj => by simp at hj
  · rw [if_neg hcl]
    have := hr.rd.cut (lo := l * sz) (hi := (h - l) * sz) false
    simpa using this
end Go.Proofs.YtffhbdgoikkngaaS
