import Derived.Test.YtffhbdgoikkngaaM3
namespace Go.Proofs.YtffhbdgoikkngaaS
open Go.RowKit
/-! Constants and pieces of the reckoning of how many. -/
theorem rep55 : rep 8 85 = 6148914691236517205 := rfl
theorem rep33 : rep 8 51 = 3689348814741910323 := rfl
theorem rep0f : rep 8 15 = 1085102592571150095 := rfl
theorem U_and (x : BitVec 64) (c : Int) (m : Nat) (hc : c = (m : Int)) (hm : m < 18446744073709551616) : bits .and .u64 (U x) c = U (x &&& BitVec.ofNat 64 m) := by
  have : c = U (BitVec.ofNat 64 m) := by unfold U; rw [hc, BitVec.toNat_ofNat, Nat.mod_eq_of_lt hm]
  rw [this, and_U]
theorem m55 (y : BitVec 64) : bits .and .u64 (U y) 6148914691236517205 = U (y &&& 6148914691236517205#64) := U_and y _ 6148914691236517205 rfl (by decide)
theorem m33 (y : BitVec 64) : bits .and .u64 (U y) 3689348814741910323 = U (y &&& 3689348814741910323#64) := U_and y _ 3689348814741910323 rfl (by decide)
theorem m0f (y : BitVec 64) : bits .and .u64 (U y) 1085102592571150095 = U (y &&& 1085102592571150095#64) := U_and y _ 1085102592571150095 rfl (by decide)
def z1 (x : BitVec 64) : BitVec 64 := ((x >>> 1) &&& 6148914691236517205#64) + (x &&& 6148914691236517205#64)
def z2 (x : BitVec 64) : BitVec 64 := ((x >>> 2) &&& 3689348814741910323#64) + (x &&& 3689348814741910323#64)
def z3 (x : BitVec 64) : BitVec 64 := ((x >>> 4) + x) &&& 1085102592571150095#64
theorem z1_nat (x : BitVec 64) : (z1 x).toNat = s1 8 x.toNat := by
  unfold z1 s1
  rw [rep55, BitVec.toNat_add, BitVec.toNat_and, BitVec.toNat_and, BitVec.toNat_ushiftRight, Nat.shiftRight_eq_div_pow]
  have e : (6148914691236517205#64).toNat = 6148914691236517205 := rfl
  rw [e]
  have h1 : x.toNat / 2 ^ 1 &&& 6148914691236517205 ≤ 6148914691236517205 := Nat.and_le_right
  have h2 : x.toNat &&& 6148914691236517205 ≤ 6148914691236517205 := Nat.and_le_right
  exact Nat.mod_eq_of_lt (by omega)
theorem z2_nat (x : BitVec 64) : (z2 x).toNat = s2 8 x.toNat := by
  unfold z2 s2
  rw [rep33, BitVec.toNat_add, BitVec.toNat_and, BitVec.toNat_and, BitVec.toNat_ushiftRight, Nat.shiftRight_eq_div_pow]
  have e : (3689348814741910323#64).toNat = 3689348814741910323 := rfl
  rw [e]
  have h1 : x.toNat / 2 ^ 2 &&& 3689348814741910323 ≤ 3689348814741910323 := Nat.and_le_right
  have h2 : x.toNat &&& 3689348814741910323 ≤ 3689348814741910323 := Nat.and_le_right
  exact Nat.mod_eq_of_lt (by omega)
theorem z3_nat (x : BitVec 64) (h : x.toNat ≤ 7378697629483820646) : (z3 x).toNat = s3 8 x.toNat := by
  unfold z3 s3
  rw [rep0f, BitVec.toNat_and, BitVec.toNat_add, BitVec.toNat_ushiftRight, Nat.shiftRight_eq_div_pow]
  have e : (1085102592571150095#64).toNat = 1085102592571150095 := rfl
  rw [e, Nat.mod_eq_of_lt (by omega)]
def z4 (x : BitVec 64) (k : Nat) : BitVec 64 := x + x >>> k
theorem z4_nat (x : BitVec 64) (k : Nat) : (z4 x k).toNat = (x.toNat + x.toNat / 2 ^ k) % 18446744073709551616 := by
  unfold z4
  rw [BitVec.toNat_add, BitVec.toNat_ushiftRight, Nat.shiftRight_eq_div_pow]
def pc (x : BitVec 64) : BitVec 64 := z4 (z4 (z4 (z3 (z2 (z1 x))) 8) 16) 32
theorem pc_low (x : BitVec 64) : (pc x).toNat % 128 = (ids x).length := by
  have h2 : (z2 (z1 x)).toNat ≤ 7378697629483820646 := by
    rw [z2_nat]; unfold s2; rw [rep33]
    have h1 : (z1 x).toNat / 4 &&& 3689348814741910323 ≤ 3689348814741910323 := Nat.and_le_right
    have h2 : (z1 x).toNat &&& 3689348814741910323 ≤ 3689348814741910323 := Nat.and_le_right
    omega
  have := T8_cnt x.toNat x.isLt
  unfold pc
  rw [z4_nat, z4_nat, z4_nat, z3_nat _ h2, z2_nat, z1_nat]
  exact this
theorem ids_le (x : BitVec 64) : (ids x).length ≤ 64 := cnt_le x.toNat 64
theorem conv_pc (x : BitVec 64) : bits .and .i64 (IntKind.i64.wrap (U (pc x))) 127 = ((ids x).length : Int) := by
  have e : BitVec.ofInt 64 (IntKind.i64.wrap (U (pc x))) = pc x := by
    refine BitVec.eq_of_toNat_eq ?_
    have := (pc x).isLt
    rw [BitVec.toNat_ofInt, IntKind.wrap_i64]; unfold U; omega
  show IntKind.i64.wrap (((BitVec.ofInt 64 (IntKind.i64.wrap (U (pc x)))) &&& (BitVec.ofInt 64 127)).toNat : Int) = _
  rw [e, BitVec.toNat_and]
  have e2 : (BitVec.ofInt 64 127).toNat = 2 ^ 7 - 1 := rfl
  rw [e2, Nat.and_two_pow_sub_one_eq_mod, show (2 : Nat) ^ 7 = 128 from rfl, pc_low]
  have := ids_le x
  rw [IntKind.wrap_i64]; omega
set_option linter.unusedVariables false
set_option linter.unusedSimpArgs false
attribute [local irreducible] Ops Ex Spec T V QO OA Rn
theorem ones (x : BitVec 64) : Spec Try.prog 28 [.int .u64 (U x)] 1 (X := Unit) (fun _ => .int .i64 ((ids x).length : Int)) (fun _ => True) (fun _ => 1) := by
  have a1 : IntKind.u64.wrap (bits .and .u64 ((U x).fdiv (2 ^ min (Int.toNat 1) IntKind.u64.bits)) 6148914691236517205 + bits .and .u64 (U x) 6148914691236517205) = U (z1 x) := by
    rw [show (U x).fdiv (2 ^ min (Int.toNat 1) IntKind.u64.bits) = U (x >>> 1) from shr_U x 1 (by decide), m55, m55, add_U]; rfl
  have a2 : ∀ x, IntKind.u64.wrap (bits .and .u64 ((U x).fdiv (2 ^ min (Int.toNat 2) IntKind.u64.bits)) 3689348814741910323 + bits .and .u64 (U x) 3689348814741910323) = U (z2 x) := fun x => by
    rw [show (U x).fdiv (2 ^ min (Int.toNat 2) IntKind.u64.bits) = U (x >>> 2) from shr_U x 2 (by decide), m33, m33, add_U]; rfl
  have a3 : ∀ x, bits .and .u64 (IntKind.u64.wrap ((U x).fdiv (2 ^ min (Int.toNat 4) IntKind.u64.bits) + U x)) 1085102592571150095 = U (z3 x) := fun x => by
    rw [show (U x).fdiv (2 ^ min (Int.toNat 4) IntKind.u64.bits) = U (x >>> 4) from shr_U x 4 (by decide), add_U, m0f]; rfl
  have a4 : ∀ x, IntKind.u64.wrap (U x + (U x).fdiv (2 ^ min (Int.toNat 8) IntKind.u64.bits)) = U (z4 x 8) := fun x => by
    rw [show (U x).fdiv (2 ^ min (Int.toNat 8) IntKind.u64.bits) = U (x >>> 8) from shr_U x 8 (by decide), add_U]; rfl
  have a5 : ∀ x, IntKind.u64.wrap (U x + (U x).fdiv (2 ^ min (Int.toNat 16) IntKind.u64.bits)) = U (z4 x 16) := fun x => by
    rw [show (U x).fdiv (2 ^ min (Int.toNat 16) IntKind.u64.bits) = U (x >>> 16) from shr_U x 16 (by decide), add_U]; rfl
  have a6 : ∀ x, IntKind.u64.wrap (U x + (U x).fdiv (2 ^ min (Int.toNat 32) IntKind.u64.bits)) = U (z4 x 32) := fun x => by
    rw [show (U x).fdiv (2 ^ min (Int.toNat 32) IntKind.u64.bits) = U (x >>> 32) from shr_U x 32 (by decide), add_U]; rfl
  refine spec_of Try.func28 rfl Try.ntmps28 rfl ?_
  repeat' (first | (refine ex_regk (id := 0) (ts := [0]) ?_; ((try (first | refine o_as (v := .int _ _) (by decide) rfl ?_ | refine o_as (by decide) rfl ?_)) <;> (try (refine ops_nilk ?_; intro _)) <;> (try ((first | refine keep_cons (v := .int _ _) rfl ?_ | refine keep_cons (v := _) rfl ?_))) <;> (try refine keep_nil ?_))) | (refine ex_regk (id := 1) (ts := [0]) ?_; ((try (first | refine o_mv (v := .int _ _) (by decide) rfl ?_ | refine o_mv (by decide) rfl ?_)) <;> (try (refine o_shr (by decide) rfl rfl (by first | decide | assumption | omega) ?_)) <;> (try (refine o_int (by decide) rfl rfl rfl ?_)) <;> (try (first | refine o_mv (v := .int _ _) (by decide) rfl ?_ | refine o_mv (by decide) rfl ?_)) <;> (try (refine o_int (by decide) rfl rfl rfl ?_)) <;> (try (refine o_int (by decide) rfl rfl rfl ?_)) <;> (try (first | refine o_as (v := .int _ _) (by decide) rfl ?_ | refine o_as (by decide) rfl ?_)) <;> (try (refine ops_nilk ?_; intro _)) <;> (try ((first | refine keep_cons (v := .int _ _) rfl ?_ | refine keep_cons (v := _) rfl ?_))) <;> (try refine keep_nil ?_))) | refine ex_seq ?_ | refine ex_block ?_ | refine ex_ret ?_ | refine ex_skip ?_ | refine ex_exit ?_ | refine ex_cond_t rfl ?_ | refine ex_cond_f rfl ?_ | refine ex_cond_t (congrArg Value.bool (by assumption)) ?_ | refine ex_cond_f (congrArg Value.bool (by assumption)) ?_ | (refine ex_split rfl ?_ ?_ <;> intro hc))
  rw [a1]
  repeat' (first | (refine ex_regk (id := 2) (ts := [0]) ?_; ((try (first | refine o_mv (v := .int _ _) (by decide) rfl ?_ | refine o_mv (by decide) rfl ?_)) <;> (try (refine o_shr (by decide) rfl rfl (by first | decide | assumption | omega) ?_)) <;> (try (refine o_int (by decide) rfl rfl rfl ?_)) <;> (try (first | refine o_mv (v := .int _ _) (by decide) rfl ?_ | refine o_mv (by decide) rfl ?_)) <;> (try (refine o_int (by decide) rfl rfl rfl ?_)) <;> (try (refine o_int (by decide) rfl rfl rfl ?_)) <;> (try (first | refine o_as (v := .int _ _) (by decide) rfl ?_ | refine o_as (by decide) rfl ?_)) <;> (try (refine ops_nilk ?_; intro _)) <;> (try ((first | refine keep_cons (v := .int _ _) rfl ?_ | refine keep_cons (v := _) rfl ?_))) <;> (try refine keep_nil ?_))) | refine ex_seq ?_ | refine ex_block ?_ | refine ex_ret ?_ | refine ex_skip ?_ | refine ex_exit ?_ | refine ex_cond_t rfl ?_ | refine ex_cond_f rfl ?_ | refine ex_cond_t (congrArg Value.bool (by assumption)) ?_ | refine ex_cond_f (congrArg Value.bool (by assumption)) ?_ | (refine ex_split rfl ?_ ?_ <;> intro hc))
  rw [a2]
  repeat' (first | (refine ex_regk (id := 3) (ts := [0]) ?_; ((try (first | refine o_mv (v := .int _ _) (by decide) rfl ?_ | refine o_mv (by decide) rfl ?_)) <;> (try (refine o_shr (by decide) rfl rfl (by first | decide | assumption | omega) ?_)) <;> (try (first | refine o_mv (v := .int _ _) (by decide) rfl ?_ | refine o_mv (by decide) rfl ?_)) <;> (try (refine o_int (by decide) rfl rfl rfl ?_)) <;> (try (refine o_int (by decide) rfl rfl rfl ?_)) <;> (try (first | refine o_as (v := .int _ _) (by decide) rfl ?_ | refine o_as (by decide) rfl ?_)) <;> (try (refine ops_nilk ?_; intro _)) <;> (try ((first | refine keep_cons (v := .int _ _) rfl ?_ | refine keep_cons (v := _) rfl ?_))) <;> (try refine keep_nil ?_))) | refine ex_seq ?_ | refine ex_block ?_ | refine ex_ret ?_ | refine ex_skip ?_ | refine ex_exit ?_ | refine ex_cond_t rfl ?_ | refine ex_cond_f rfl ?_ | refine ex_cond_t (congrArg Value.bool (by assumption)) ?_ | refine ex_cond_f (congrArg Value.bool (by assumption)) ?_ | (refine ex_split rfl ?_ ?_ <;> intro hc))
  rw [a3]
  repeat' (first | (refine ex_regk (id := 4) (ts := [0]) ?_; ((try (first | refine o_mv (v := .int _ _) (by decide) rfl ?_ | refine o_mv (by decide) rfl ?_)) <;> (try (first | refine o_mv (v := .int _ _) (by decide) rfl ?_ | refine o_mv (by decide) rfl ?_)) <;> (try (refine o_shr (by decide) rfl rfl (by first | decide | assumption | omega) ?_)) <;> (try (refine o_int (by decide) rfl rfl rfl ?_)) <;> (try (first | refine o_as (v := .int _ _) (by decide) rfl ?_ | refine o_as (by decide) rfl ?_)) <;> (try (refine ops_nilk ?_; intro _)) <;> (try ((first | refine keep_cons (v := .int _ _) rfl ?_ | refine keep_cons (v := _) rfl ?_))) <;> (try refine keep_nil ?_))) | refine ex_seq ?_ | refine ex_block ?_ | refine ex_ret ?_ | refine ex_skip ?_ | refine ex_exit ?_ | refine ex_cond_t rfl ?_ | refine ex_cond_f rfl ?_ | refine ex_cond_t (congrArg Value.bool (by assumption)) ?_ | refine ex_cond_f (congrArg Value.bool (by assumption)) ?_ | (refine ex_split rfl ?_ ?_ <;> intro hc))
  rw [a4]
  repeat' (first | (refine ex_regk (id := 5) (ts := [0]) ?_; ((try (first | refine o_mv (v := .int _ _) (by decide) rfl ?_ | refine o_mv (by decide) rfl ?_)) <;> (try (first | refine o_mv (v := .int _ _) (by decide) rfl ?_ | refine o_mv (by decide) rfl ?_)) <;> (try (refine o_shr (by decide) rfl rfl (by first | decide | assumption | omega) ?_)) <;> (try (refine o_int (by decide) rfl rfl rfl ?_)) <;> (try (first | refine o_as (v := .int _ _) (by decide) rfl ?_ | refine o_as (by decide) rfl ?_)) <;> (try (refine ops_nilk ?_; intro _)) <;> (try ((first | refine keep_cons (v := .int _ _) rfl ?_ | refine keep_cons (v := _) rfl ?_))) <;> (try refine keep_nil ?_))) | refine ex_seq ?_ | refine ex_block ?_ | refine ex_ret ?_ | refine ex_skip ?_ | refine ex_exit ?_ | refine ex_cond_t rfl ?_ | refine ex_cond_f rfl ?_ | refine ex_cond_t (congrArg Value.bool (by assumption)) ?_ | refine ex_cond_f (congrArg Value.bool (by assumption)) ?_ | (refine ex_split rfl ?_ ?_ <;> intro hc))
  rw [a5]
  repeat' (first | (refine ex_regk (id := 6) (ts := [0]) ?_; ((try (first | refine o_mv (v := .int _ _) (by decide) rfl ?_ | refine o_mv (by decide) rfl ?_)) <;> (try (first | refine o_mv (v := .int _ _) (by decide) rfl ?_ | refine o_mv (by decide) rfl ?_)) <;> (try (refine o_shr (by decide) rfl rfl (by first | decide | assumption | omega) ?_)) <;> (try (refine o_int (by decide) rfl rfl rfl ?_)) <;> (try (first | refine o_as (v := .int _ _) (by decide) rfl ?_ | refine o_as (by decide) rfl ?_)) <;> (try (refine ops_nilk ?_; intro _)) <;> (try ((first | refine keep_cons (v := .int _ _) rfl ?_ | refine keep_cons (v := _) rfl ?_))) <;> (try refine keep_nil ?_))) | refine ex_seq ?_ | refine ex_block ?_ | refine ex_ret ?_ | refine ex_skip ?_ | refine ex_exit ?_ | refine ex_cond_t rfl ?_ | refine ex_cond_f rfl ?_ | refine ex_cond_t (congrArg Value.bool (by assumption)) ?_ | refine ex_cond_f (congrArg Value.bool (by assumption)) ?_ | (refine ex_split rfl ?_ ?_ <;> intro hc))
  rw [a6, ← conv_pc]
  repeat' (first | (refine ex_regk (id := 7) (ts := [2]) ?_; ((try (first | refine o_mv (v := .int _ _) (by decide) rfl ?_ | refine o_mv (by decide) rfl ?_)) <;> (try (refine o_conv (by decide) rfl ?_)) <;> (try (refine o_int (by decide) rfl rfl rfl ?_)) <;> (try (first | refine o_as (v := .int _ _) (by decide) rfl ?_ | refine o_as (by decide) rfl ?_)) <;> (try (refine ops_nilk ?_; intro _)) <;> (try ((first | refine keep_cons (v := .int _ _) rfl ?_ | refine keep_cons (v := _) rfl ?_))) <;> (try refine keep_nil ?_))) | refine ex_seq ?_ | refine ex_block ?_ | refine ex_ret ?_ | refine ex_skip ?_ | refine ex_exit ?_ | refine ex_cond_t rfl ?_ | refine ex_cond_f rfl ?_ | refine ex_cond_t (congrArg Value.bool (by assumption)) ?_ | refine ex_cond_f (congrArg Value.bool (by assumption)) ?_ | (refine ex_split rfl ?_ ?_ <;> intro hc))
  exact fin (.inr rfl) () (resl1 rfl (rv_tmp rfl)) trivial (Ent.refl _)
theorem count (x : BitVec 64) : Spec Try.prog 18 [.int .u64 (U x)] 1 (X := Unit) (fun _ => .int .i64 ((ids x).length : Int)) (fun _ => True) (fun _ => 1) := by
  refine spec_of Try.func18 rfl Try.ntmps18 rfl ?_
  repeat' (first | (refine ex_regk (id := 0) (ts := [0]) ?_; ((try (first | refine o_as (v := .int _ _) (by decide) rfl ?_ | refine o_as (by decide) rfl ?_)) <;> (try (refine ops_nilk ?_; intro _)) <;> (try ((first | refine keep_cons (v := .int _ _) rfl ?_ | refine keep_cons (v := _) rfl ?_))) <;> (try refine keep_nil ?_))) | (refine ex_regk (id := 1) (ts := [2]) ?_; ((try (first | refine o_mv (v := .int _ _) (by decide) rfl ?_ | refine o_mv (by decide) rfl ?_)) <;> (try (refine o_call (ones x) (by first | exact True.intro | (show _ < _; decide)) rfl rfl (fun _ _ => ?_))) <;> (try (first | refine o_as (v := .int _ _) (by decide) rfl ?_ | refine o_as (by decide) rfl ?_)) <;> (try (refine ops_nilk ?_; intro _)) <;> (try ((first | refine keep_cons (v := .int _ _) rfl ?_ | refine keep_cons (v := _) rfl ?_))) <;> (try refine keep_nil ?_))) | refine ex_seq ?_ | refine ex_block ?_ | refine ex_ret ?_ | refine ex_skip ?_ | refine ex_exit ?_ | refine ex_cond_t rfl ?_ | refine ex_cond_f rfl ?_ | refine ex_cond_t (congrArg Value.bool (by assumption)) ?_ | refine ex_cond_f (congrArg Value.bool (by assumption)) ?_ | (refine ex_split rfl ?_ ?_ <;> intro hc))
  exact fin (.inr rfl) () (resl1 rfl (rv_tmp rfl)) trivial (Ent.toOne _)
end Go.Proofs.YtffhbdgoikkngaaS
