import Derived.Test.YtliajhikhmgbjaaTy
import Derived.Test.YtliajhikhmgbjaaSs
namespace Go.Proofs.YtliajhikhmgbjaaS
open Go.RowKit
/-- A set of numbers below 64, as the program holds it. -/
def U (x : BitVec 64) : Int := (x.toNat : Int)
theorem U_lt (x : BitVec 64) : 0 ≤ U x ∧ U x < 18446744073709551616 := by unfold U; have := x.isLt; omega
theorem U_inj {x y : BitVec 64} (h : U x = U y) : x = y := by unfold U at h; exact BitVec.eq_of_toNat_eq (by omega)
theorem U_eq (x y : BitVec 64) : (U x == U y) = decide (x = y) := by
  rw [Bool.eq_iff_iff]; simp only [beq_iff_eq, decide_eq_true_eq]
  exact ⟨U_inj, fun h => by rw [h]⟩
theorem wrapU (n : Nat) (h : n < 18446744073709551616) : IntKind.u64.wrap (n : Int) = (n : Int) := by rw [IntKind.wrap_u64]; omega
theorem ofInt_U (x : BitVec 64) : BitVec.ofInt 64 (U x) = x := by unfold U; rw [BitVec.ofInt_natCast]; simp
theorem and_U (x y : BitVec 64) : bits .and .u64 (U x) (U y) = U (x &&& y) := by
  show IntKind.u64.wrap (((BitVec.ofInt 64 (U x)) &&& (BitVec.ofInt 64 (U y))).toNat : Int) = _
  rw [ofInt_U, ofInt_U]; exact wrapU _ (BitVec.isLt _)
theorem or_U (x y : BitVec 64) : bits .or .u64 (U x) (U y) = U (x ||| y) := by
  show IntKind.u64.wrap (((BitVec.ofInt 64 (U x)) ||| (BitVec.ofInt 64 (U y))).toNat : Int) = _
  rw [ofInt_U, ofInt_U]; exact wrapU _ (BitVec.isLt _)
theorem andNot_U (x y : BitVec 64) : bits .andNot .u64 (U x) (U y) = U (x &&& ~~~y) := by
  show IntKind.u64.wrap (((BitVec.ofInt 64 (U x)) &&& ~~~(BitVec.ofInt 64 (U y))).toNat : Int) = _
  rw [ofInt_U, ofInt_U]; exact wrapU _ (BitVec.isLt _)
theorem U_zero : U 0 = 0 := rfl
theorem U_ones : U (BitVec.allOnes 64) = 18446744073709551615 := rfl
theorem U_of {a : Int} (w : (Lit.int .u64 a).wf = true) : ∃ x : BitVec 64, a = U x := by
  unfold Lit.wf at w
  rw [Bool.and_eq_true] at w
  have h1 := of_decide_eq_true w.1
  have h2 := of_decide_eq_true w.2
  have h1 : 0 ≤ a := h1
  have h2 : a ≤ 18446744073709551615 := h2
  exact ⟨BitVec.ofNat 64 a.toNat, by unfold U; rw [BitVec.toNat_ofNat]; omega⟩
def bt (id : Int) : BitVec 64 := if 0 ≤ id ∧ id < 64 then 1#64 <<< id.toNat else 0
theorem bt_U (id : Int) (h0 : 0 ≤ id) (h1 : id < 64) : IntKind.u64.wrap (1 * 2 ^ min id.toNat IntKind.u64.bits) = U (bt id) := by
  unfold bt U
  rw [if_pos ⟨h0, h1⟩]
  obtain ⟨k, rfl⟩ : ∃ k : Nat, id = (k : Int) := ⟨id.toNat, by omega⟩
  rw [Int.toNat_natCast]
  have hk : k < 64 := by omega
  have e : min k IntKind.u64.bits = k := Nat.min_eq_left (by show k ≤ 64; omega)
  rw [e, BitVec.toNat_shiftLeft, IntKind.wrap_u64, Nat.shiftLeft_eq]
  have : (2 : Int) ^ k = ((2 ^ k : Nat) : Int) := by simp
  rw [this]
  have h1 : (1#64).toNat = 1 := rfl
  rw [h1]
  have hp : 2 ^ k < 2 ^ 64 := Nat.pow_lt_pow_right (by decide) hk
  rw [Nat.mod_eq_of_lt (by omega)]
  omega
set_option linter.unusedVariables false
set_option linter.unusedSimpArgs false
attribute [local irreducible] Ops Ex Spec T V QO OA Rn
theorem o_load_rb {P : Program} {n : Nat} {ops : Array Oper} {rest : List Oper} {e : Env} {H : HP} {Φ : Post} {d : Nat} {ty : TypeId} {ps : String} {af : Array Edge} {t : TypeId} {z : Value} {x : Operand} {b o j : Nat} {v : Value} {l} [c : Sc P t z] [hr : RdC H (some ⟨b, o, none⟩) l] (hd : d < n) (hx : ev e x = .pointer (some ⟨b, o + j, none⟩)) (hv : l[j]? = some v)
    (k : Ops P n ops rest (put e d v) H Φ) : Ops P n ops (⟨some d, .load t x, ty, ps, af, none⟩ :: rest) e H Φ := o_load_r hd (by rw [hx, add_none]) hv k
theorem bit (id : Int) : Spec Try.prog 19 [.int .i64 id] 1 (X := Unit) (fun _ => .int .u64 (U (bt id))) (fun _ => True) (fun _ => 1) := by
  refine spec_of Try.func19 rfl Try.ntmps19 rfl ?_
  by_cases h0 : id < 0
  · have d0 : decide (id < 0) = true := decide_eq_true h0
    have hb : bt id = 0 := by unfold bt; rw [if_neg (by omega)]
    rw [hb]
    repeat' (first | (refine ex_regk (id := 0) (ts := [0]) ?_; ((try (first | refine o_as (v := .int _ _) (by decide) rfl ?_ | refine o_as (by decide) rfl ?_)) <;> (try (refine ops_nilk ?_; intro _)) <;> (try ((first | refine keep_cons (v := .int _ _) rfl ?_ | refine keep_cons (v := _) rfl ?_))) <;> (try refine keep_nil ?_))) | (refine ex_regk (id := 1) (ts := [0, 8]) ?_; ((try (first | refine o_mv (v := .int _ _) (by decide) rfl ?_ | refine o_mv (by decide) rfl ?_)) <;> (try (refine o_int (by decide) rfl rfl rfl ?_)) <;> (try (first | refine o_mv (v := .bool _) (by decide) rfl ?_ | refine o_mv (by decide) rfl ?_)) <;> (try (first | refine g_no rfl (by decide) rfl (by decide) ?_ | refine g_undef rfl rfl (by decide) ?_ | (refine g_yes rfl (by decide) rfl ?_; (first | refine o_mv (v := .int _ _) (by decide) rfl ?_ | refine o_mv (by decide) rfl ?_)) | refine g_noT rfl (by decide) rfl (by assumption) (by decide) ?_ | (refine g_yesF rfl (by decide) rfl (by assumption) ?_; (first | refine o_mv (v := .int _ _) (by decide) rfl ?_ | refine o_mv (by decide) rfl ?_)) | ((refine g_split rfl (by decide) rfl (by decide) ?_ ?_ <;> intro hc); (first | refine o_mv (v := .int _ _) (by decide) rfl ?_ | refine o_mv (by decide) rfl ?_)))) <;> (try (first | refine g_no rfl (by decide) rfl (by decide) ?_ | refine g_undef rfl rfl (by decide) ?_ | (refine g_yes rfl (by decide) rfl ?_; (refine o_int (by decide) rfl rfl rfl ?_)) | refine g_noT rfl (by decide) rfl (by assumption) (by decide) ?_ | (refine g_yesF rfl (by decide) rfl (by assumption) ?_; (refine o_int (by decide) rfl rfl rfl ?_)) | ((refine g_split rfl (by decide) rfl (by decide) ?_ ?_ <;> intro hc); (refine o_int (by decide) rfl rfl rfl ?_)))) <;> (try (first | refine o_pick_t (v := .bool _) (by decide) rfl rfl ?_ | refine o_pick_f (v := .bool _) (by decide) rfl rfl ?_)) <;> (try (refine ops_nilk ?_; intro _)) <;> (try ((first | refine keep_cons (v := .int _ _) rfl ?_ | refine keep_cons (v := _) rfl ?_) <;> (first | refine keep_cons (v := .bool _) rfl ?_ | refine keep_cons (v := _) rfl ?_))) <;> (try refine keep_nil ?_))) | (refine ex_regk (id := 2) (ts := [2]) ?_; ((try (first | refine o_as (v := .int _ _) (by decide) rfl ?_ | refine o_as (by decide) rfl ?_)) <;> (try (refine ops_nilk ?_; intro _)) <;> (try ((first | refine keep_cons (v := .int _ _) rfl ?_ | refine keep_cons (v := _) rfl ?_))) <;> (try refine keep_nil ?_))) | refine ex_seq ?_ | refine ex_block ?_ | refine ex_ret ?_ | refine ex_skip ?_ | refine ex_exit ?_ | refine ex_cond_t rfl ?_ | refine ex_cond_f rfl ?_ | refine ex_cond_t (congrArg Value.bool (by assumption)) ?_ | refine ex_cond_f (congrArg Value.bool (by assumption)) ?_ | (refine ex_split rfl ?_ ?_ <;> intro hc))
    exact fin (.inr rfl) () (resl1 rfl (rv_tmp rfl)) trivial (Ent.toOne _)
  · have d0 : decide (id < 0) = false := decide_eq_false h0
    by_cases h1 : id ≥ 64
    · have d1 : decide (id ≥ 64) = true := decide_eq_true h1
      have hb : bt id = 0 := by unfold bt; rw [if_neg (by omega)]
      rw [hb]
      repeat' (first | (refine ex_regk (id := 0) (ts := [0]) ?_; ((try (first | refine o_as (v := .int _ _) (by decide) rfl ?_ | refine o_as (by decide) rfl ?_)) <;> (try (refine ops_nilk ?_; intro _)) <;> (try ((first | refine keep_cons (v := .int _ _) rfl ?_ | refine keep_cons (v := _) rfl ?_))) <;> (try refine keep_nil ?_))) | (refine ex_regk (id := 1) (ts := [0, 8]) ?_; ((try (first | refine o_mv (v := .int _ _) (by decide) rfl ?_ | refine o_mv (by decide) rfl ?_)) <;> (try (refine o_int (by decide) rfl rfl rfl ?_)) <;> (try (first | refine o_mv (v := .bool _) (by decide) rfl ?_ | refine o_mv (by decide) rfl ?_)) <;> (try (first | refine g_no rfl (by decide) rfl (by decide) ?_ | refine g_undef rfl rfl (by decide) ?_ | (refine g_yes rfl (by decide) rfl ?_; (first | refine o_mv (v := .int _ _) (by decide) rfl ?_ | refine o_mv (by decide) rfl ?_)) | refine g_noT rfl (by decide) rfl (by assumption) (by decide) ?_ | (refine g_yesF rfl (by decide) rfl (by assumption) ?_; (first | refine o_mv (v := .int _ _) (by decide) rfl ?_ | refine o_mv (by decide) rfl ?_)) | ((refine g_split rfl (by decide) rfl (by decide) ?_ ?_ <;> intro hc); (first | refine o_mv (v := .int _ _) (by decide) rfl ?_ | refine o_mv (by decide) rfl ?_)))) <;> (try (first | refine g_no rfl (by decide) rfl (by decide) ?_ | refine g_undef rfl rfl (by decide) ?_ | (refine g_yes rfl (by decide) rfl ?_; (refine o_int (by decide) rfl rfl rfl ?_)) | refine g_noT rfl (by decide) rfl (by assumption) (by decide) ?_ | (refine g_yesF rfl (by decide) rfl (by assumption) ?_; (refine o_int (by decide) rfl rfl rfl ?_)) | ((refine g_split rfl (by decide) rfl (by decide) ?_ ?_ <;> intro hc); (refine o_int (by decide) rfl rfl rfl ?_)))) <;> (try (first | refine o_pick_t (v := .bool _) (by decide) rfl rfl ?_ | refine o_pick_f (v := .bool _) (by decide) rfl rfl ?_)) <;> (try (refine ops_nilk ?_; intro _)) <;> (try ((first | refine keep_cons (v := .int _ _) rfl ?_ | refine keep_cons (v := _) rfl ?_) <;> (first | refine keep_cons (v := .bool _) rfl ?_ | refine keep_cons (v := _) rfl ?_))) <;> (try refine keep_nil ?_))) | (refine ex_regk (id := 2) (ts := [2]) ?_; ((try (first | refine o_as (v := .int _ _) (by decide) rfl ?_ | refine o_as (by decide) rfl ?_)) <;> (try (refine ops_nilk ?_; intro _)) <;> (try ((first | refine keep_cons (v := .int _ _) rfl ?_ | refine keep_cons (v := _) rfl ?_))) <;> (try refine keep_nil ?_))) | refine ex_seq ?_ | refine ex_block ?_ | refine ex_ret ?_ | refine ex_skip ?_ | refine ex_exit ?_ | refine ex_cond_t rfl ?_ | refine ex_cond_f rfl ?_ | refine ex_cond_t (congrArg Value.bool (by assumption)) ?_ | refine ex_cond_f (congrArg Value.bool (by assumption)) ?_ | (refine ex_split rfl ?_ ?_ <;> intro hc))
      exact fin (.inr rfl) () (resl1 rfl (rv_tmp rfl)) trivial (Ent.toOne _)
    · have d1 : decide (id ≥ 64) = false := decide_eq_false h1
      have h3 : 0 ≤ id := by omega
      repeat' (first | (refine ex_regk (id := 0) (ts := [0]) ?_; ((try (first | refine o_as (v := .int _ _) (by decide) rfl ?_ | refine o_as (by decide) rfl ?_)) <;> (try (refine ops_nilk ?_; intro _)) <;> (try ((first | refine keep_cons (v := .int _ _) rfl ?_ | refine keep_cons (v := _) rfl ?_))) <;> (try refine keep_nil ?_))) | (refine ex_regk (id := 1) (ts := [0, 8]) ?_; ((try (first | refine o_mv (v := .int _ _) (by decide) rfl ?_ | refine o_mv (by decide) rfl ?_)) <;> (try (refine o_int (by decide) rfl rfl rfl ?_)) <;> (try (first | refine o_mv (v := .bool _) (by decide) rfl ?_ | refine o_mv (by decide) rfl ?_)) <;> (try (first | refine g_no rfl (by decide) rfl (by decide) ?_ | refine g_undef rfl rfl (by decide) ?_ | (refine g_yes rfl (by decide) rfl ?_; (first | refine o_mv (v := .int _ _) (by decide) rfl ?_ | refine o_mv (by decide) rfl ?_)) | refine g_noT rfl (by decide) rfl (by assumption) (by decide) ?_ | (refine g_yesF rfl (by decide) rfl (by assumption) ?_; (first | refine o_mv (v := .int _ _) (by decide) rfl ?_ | refine o_mv (by decide) rfl ?_)) | ((refine g_split rfl (by decide) rfl (by decide) ?_ ?_ <;> intro hc); (first | refine o_mv (v := .int _ _) (by decide) rfl ?_ | refine o_mv (by decide) rfl ?_)))) <;> (try (first | refine g_no rfl (by decide) rfl (by decide) ?_ | refine g_undef rfl rfl (by decide) ?_ | (refine g_yes rfl (by decide) rfl ?_; (refine o_int (by decide) rfl rfl rfl ?_)) | refine g_noT rfl (by decide) rfl (by assumption) (by decide) ?_ | (refine g_yesF rfl (by decide) rfl (by assumption) ?_; (refine o_int (by decide) rfl rfl rfl ?_)) | ((refine g_split rfl (by decide) rfl (by decide) ?_ ?_ <;> intro hc); (refine o_int (by decide) rfl rfl rfl ?_)))) <;> (try (first | refine o_pick_t (v := .bool _) (by decide) rfl rfl ?_ | refine o_pick_f (v := .bool _) (by decide) rfl rfl ?_)) <;> (try (refine ops_nilk ?_; intro _)) <;> (try ((first | refine keep_cons (v := .int _ _) rfl ?_ | refine keep_cons (v := _) rfl ?_) <;> (first | refine keep_cons (v := .bool _) rfl ?_ | refine keep_cons (v := _) rfl ?_))) <;> (try refine keep_nil ?_))) | (refine ex_regk (id := 3) (ts := [2]) ?_; ((try (first | refine o_mv (v := .int _ _) (by decide) rfl ?_ | refine o_mv (by decide) rfl ?_)) <;> (try (refine o_shl (by decide) rfl rfl (by first | decide | assumption | omega) ?_)) <;> (try (first | refine o_as (v := .int _ _) (by decide) rfl ?_ | refine o_as (by decide) rfl ?_)) <;> (try (refine ops_nilk ?_; intro _)) <;> (try ((first | refine keep_cons (v := .int _ _) rfl ?_ | refine keep_cons (v := _) rfl ?_))) <;> (try refine keep_nil ?_))) | refine ex_seq ?_ | refine ex_block ?_ | refine ex_ret ?_ | refine ex_skip ?_ | refine ex_exit ?_ | refine ex_cond_t rfl ?_ | refine ex_cond_f rfl ?_ | refine ex_cond_t (congrArg Value.bool (by assumption)) ?_ | refine ex_cond_f (congrArg Value.bool (by assumption)) ?_ | (refine ex_split rfl ?_ ?_ <;> intro hc))
      rw [bt_U id h3 (by omega)]
      exact fin (.inr rfl) () (resl1 rfl (rv_tmp rfl)) trivial (Ent.toOne _)
theorem has (m : BitVec 64) (id : Int) : Spec Try.prog 16 [.int .u64 (U m), .int .i64 id] 1 (X := Unit) (fun _ => .bool (!decide (m &&& bt id = 0))) (fun _ => True) (fun _ => 1) := by
  refine spec_of Try.func16 rfl Try.ntmps16 rfl ?_
  repeat' (first | (refine ex_regk (id := 0) (ts := [0, 1]) ?_; ((try (first | refine o_as (v := .bool _) (by decide) rfl ?_ | refine o_as (by decide) rfl ?_)) <;> (try (refine ops_nilk ?_; intro _)) <;> (try ((first | refine keep_cons (v := .int _ _) rfl ?_ | refine keep_cons (v := _) rfl ?_) <;> (first | refine keep_cons (v := .int _ _) rfl ?_ | refine keep_cons (v := _) rfl ?_))) <;> (try refine keep_nil ?_))) | (refine ex_regk (id := 1) (ts := [4]) ?_; ((try (first | refine o_mv (v := .int _ _) (by decide) rfl ?_ | refine o_mv (by decide) rfl ?_)) <;> (try (first | refine o_mv (v := .int _ _) (by decide) rfl ?_ | refine o_mv (by decide) rfl ?_)) <;> (try (refine o_call (bit id) (by first | exact True.intro | (show _ < _; decide)) rfl rfl (fun _ _ => ?_))) <;> (try (refine o_int (by decide) rfl rfl rfl ?_)) <;> (try (refine o_int (by decide) rfl rfl rfl ?_)) <;> (try (first | refine o_as (v := .bool _) (by decide) rfl ?_ | refine o_as (by decide) rfl ?_)) <;> (try (refine ops_nilk ?_; intro _)) <;> (try ((first | refine keep_cons (v := .bool _) rfl ?_ | refine keep_cons (v := _) rfl ?_))) <;> (try refine keep_nil ?_))) | refine ex_seq ?_ | refine ex_block ?_ | refine ex_ret ?_ | refine ex_skip ?_ | refine ex_exit ?_ | refine ex_cond_t rfl ?_ | refine ex_cond_f rfl ?_ | refine ex_cond_t (congrArg Value.bool (by assumption)) ?_ | refine ex_cond_f (congrArg Value.bool (by assumption)) ?_ | (refine ex_split rfl ?_ ?_ <;> intro hc))
  rw [and_U, ← U_zero]
  have : (U (m &&& bt id) != U 0) = !decide (m &&& bt id = 0) := by rw [← U_eq]; rfl
  rw [this]
  exact fin (.inr rfl) () (resl1 rfl (rv_tmp rfl)) trivial (Ent.toOne _)
def hs (m : BitVec 64) (k : Int) : Bool := !decide (m &&& bt k = 0)
theorem hasV {m : BitVec 64} {k : Int} {v : Bool} (h : hs m k = v) : Spec Try.prog 16 [.int .u64 (U m), .int .i64 k] 1 (X := Unit) (fun _ => .bool v) (fun _ => True) (fun _ => 1) := by
  subst h; exact has m k
end Go.Proofs.YtliajhikhmgbjaaS
