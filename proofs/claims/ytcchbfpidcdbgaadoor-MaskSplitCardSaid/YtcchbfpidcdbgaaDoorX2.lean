import Derived.Test.YtcchbfpidcdbgaaDoorX1
namespace Go.Proofs.YtcchbfpidcdbgaaDoorS
open Go.RowKit
theorem neg_U (x : BitVec 64) : IntKind.u64.wrap (0 - U x) = U (-x) := by
  unfold U; rw [IntKind.wrap_u64, BitVec.toNat_neg]; have := x.isLt; omega
theorem sub1_U (x : BitVec 64) : IntKind.u64.wrap (U x - 1) = U (x - 1#64) := by
  unfold U; rw [IntKind.wrap_u64, BitVec.toNat_sub]; have := x.isLt; have e : (1#64).toNat = 1 := rfl; rw [e]; omega
theorem add_U (x y : BitVec 64) : IntKind.u64.wrap (U x + U y) = U (x + y) := by
  unfold U; rw [IntKind.wrap_u64, BitVec.toNat_add]; omega
theorem mul_U (x y : BitVec 64) : IntKind.u64.wrap (U x * U y) = U (x * y) := by
  unfold U; rw [IntKind.wrap_u64, BitVec.toNat_mul, ← Int.natCast_mul]; omega
theorem shr_U (x : BitVec 64) (k : Nat) (h : k ≤ 64) : (U x).fdiv (2 ^ min ((k : Int).toNat) IntKind.u64.bits) = U (x >>> k) := by
  unfold U
  have e : min ((k : Int).toNat) IntKind.u64.bits = k := by rw [Int.toNat_natCast]; exact Nat.min_eq_left h
  rw [e, BitVec.toNat_ushiftRight, Nat.shiftRight_eq_div_pow]
  have : (2 : Int) ^ k = ((2 ^ k : Nat) : Int) := by simp
  rw [this, Int.fdiv_eq_ediv_of_nonneg _ (Int.natCast_nonneg _)]
  simp
def tab : List Int := [0, 1, 56, 2, 57, 49, 28, 3, 61, 58, 42, 50, 38, 29, 17, 4, 62, 47, 59, 36, 45, 43, 51, 22, 53, 39, 33, 30, 24, 18, 12, 5, 63, 55, 48, 27, 60, 41, 37, 16, 46, 35, 44, 21, 52, 32, 23, 11, 54, 26, 40, 15, 34, 20, 31, 10, 25, 14, 19, 9, 13, 8, 7, 6]
def TB : List Value := ints .u8 tab
theorem tab_get0 : ∀ i : Fin 64, tab[(((1#64 <<< i.val) * 285870213051353865#64) >>> 58).toNat]? = some (i.val : Int) := by decide +kernel
theorem tab_get (i : Nat) (hi : i < 64) : TB[(((1#64 <<< i) * 285870213051353865#64) >>> 58).toNat]? = some (.int .u8 (i : Int)) := by
  have h := tab_get0 ⟨i, hi⟩
  unfold TB ints
  rw [List.getElem?_map, h]
  rfl
theorem U_toNat (x : BitVec 64) : (U x).toNat = x.toNat := Int.toNat_natCast _
/-- The lowest number in a set that is not empty. -/
theorem low (x : BitVec 64) (h : x ≠ 0) : ∃ i, i < 64 ∧ x.getLsbD i = true ∧ ∀ j, j < i → x.getLsbD j = false := by
  have hex : ∃ i, i < 64 ∧ x.getLsbD i = true := by
    refine Classical.byContradiction fun hn => h ?_
    refine BitVec.eq_of_getLsbD_eq fun i hi => ?_
    have := fun hc => hn ⟨i, hi, hc⟩
    show x.getLsbD i = (0#64).getLsbD i
    rw [BitVec.getLsbD_zero]
    simpa using this
  have : ∀ n, (∃ i, i < n ∧ i < 64 ∧ x.getLsbD i = true) → ∃ i, i < 64 ∧ x.getLsbD i = true ∧ ∀ j, j < i → x.getLsbD j = false := by
    intro n
    induction n with
    | zero => rintro ⟨i, hi, _⟩; omega
    | succ n ih =>
      rintro ⟨i, hi, hi64, hb⟩
      by_cases hs : ∃ j, j < n ∧ j < 64 ∧ x.getLsbD j = true
      · exact ih hs
      · have hin : i = n := by
          by_cases h1 : i < n
          · exact absurd ⟨i, h1, hi64, hb⟩ hs
          · omega
        refine ⟨i, hi64, hb, fun j hj => ?_⟩
        cases hc : x.getLsbD j with
        | false => rfl
        | true => exact absurd ⟨j, by omega, by omega, hc⟩ hs
  obtain ⟨i, hi, hb⟩ := hex
  exact this 64 ⟨i, hi, hi, hb⟩
theorem and_neg (x : BitVec 64) (i : Nat) (hi : i < 64) (hb : x.getLsbD i = true) (hl : ∀ j, j < i → x.getLsbD j = false) : x &&& -x = 1#64 <<< i := by
  refine BitVec.eq_of_getLsbD_eq fun k hk => ?_
  rw [BitVec.getLsbD_and, BitVec.getLsbD_neg, BitVec.getLsbD_shiftLeft]
  rcases Nat.lt_trichotomy k i with h | h | h
  · rw [hl k h]; simp [h]
  · subst h
    have : ¬ ∃ j, j < k ∧ x.getLsbD j = true := fun ⟨j, hj, hc⟩ => by rw [hl j hj] at hc; cases hc
    simp [hb, this, hk]
  · have : ∃ j, j < k ∧ x.getLsbD j = true := ⟨i, h, hb⟩
    have h1 : ¬ k < i := by omega
    have h2 : (1#64).getLsbD (k - i) = false := by
      have : k - i ≠ 0 := by omega
      simp [BitVec.getLsbD_one, this]
    rw [h2]
    simp [this, hk]
theorem not_neg (x : BitVec 64) : ~~~(-x) = x - 1#64 := by
  refine BitVec.eq_of_toNat_eq ?_
  rw [BitVec.toNat_not, BitVec.toNat_neg, BitVec.toNat_sub]
  have := x.isLt
  have e : (1#64).toNat = 1 := rfl
  rw [e]; omega
/-- A set without its lowest number. -/
theorem and_pred (x : BitVec 64) (i : Nat) (hi : i < 64) (hb : x.getLsbD i = true) (hl : ∀ j, j < i → x.getLsbD j = false) (k : Nat) : (x &&& (x - 1#64)).getLsbD k = (x.getLsbD k && !decide (k = i)) := by
  by_cases hk : k < 64
  · rw [← not_neg, BitVec.getLsbD_and, BitVec.getLsbD_not, BitVec.getLsbD_neg]
    rcases Nat.lt_trichotomy k i with h | h | h
    · rw [hl k h]; simp
    · subst h
      have : ¬ ∃ j, j < k ∧ x.getLsbD j = true := fun ⟨j, hj, hc⟩ => by rw [hl j hj] at hc; cases hc
      simp [this, hk]
    · have : ∃ j, j < k ∧ x.getLsbD j = true := ⟨i, h, hb⟩
      have h1 : k ≠ i := by omega
      cases hx : x.getLsbD k
      · rfl
      · simp only [this, hk, h1, decide_true, decide_false, Bool.not_false, Bool.and_true, Bool.not_true, Bool.xor_true]
  · rw [BitVec.getLsbD_of_ge _ _ (by omega), BitVec.getLsbD_of_ge _ _ (by omega)]; rfl
def tz (x : BitVec 64) : Nat := ((List.range 64).find? (x.getLsbD ·)).getD 64
theorem tz_eq (x : BitVec 64) (i : Nat) (hi : i < 64) (hb : x.getLsbD i = true) (hl : ∀ j, j < i → x.getLsbD j = false) : tz x = i := by
  unfold tz
  have : (List.range 64).find? (x.getLsbD ·) = some i := by
    rw [List.find?_range_eq_some]
    exact ⟨hb, by simpa using hi, fun j hj => by simp [hl j hj]⟩
  rw [this]; rfl
set_option linter.unusedVariables false
set_option linter.unusedSimpArgs false
attribute [local irreducible] Ops Ex Spec T V QO OA Rn
theorem tzeros (H : HP) (x : BitVec 64) [hr : RdC H (some ⟨0, 0, none⟩) TB] (hx : x ≠ 0) : Spec Tryd.prog 22 [.int .u64 (U x)] H (X := Unit) (fun _ => .int .i64 (tz x : Int)) (fun _ => True) (fun _ => H) := by
  obtain ⟨i, hi, hb, hl⟩ := low x hx
  have h0 : (U x == 0) = false := by
    rw [← U_zero, U_eq]; exact decide_eq_false hx
  have e1 := shr_U (x &&& -x) 58 (by decide)
  have hidx : U (((1#64 <<< i) * 285870213051353865#64) >>> 58) < 64 := by
    unfold U
    have : (((1#64 <<< i) * 285870213051353865#64) >>> 58).toNat < 64 := by
      rw [BitVec.toNat_ushiftRight, Nat.shiftRight_eq_div_pow]
      have := (((1#64 <<< i) * 285870213051353865#64)).isLt
      omega
    omega
  have h1 := hidx
  have h2 : 0 ≤ U (((1#64 <<< i) * 285870213051353865#64) >>> 58) := (U_lt _).1
  have ec : IntKind.u64.wrap (bits .and .u64 (U x) (IntKind.u64.wrap (0 - U x)) * 285870213051353865) = U ((1#64 <<< i) * 285870213051353865#64) := by
    rw [neg_U, and_U, and_neg x i hi hb hl]
    exact mul_U _ 285870213051353865#64
  have e3 : (IntKind.u64.wrap (bits .and .u64 (U x) (IntKind.u64.wrap (0 - U x)) * 285870213051353865)).fdiv (2 ^ min (Int.toNat 58) IntKind.u64.bits) = U (((1#64 <<< i) * 285870213051353865#64) >>> 58) := by
    rw [ec]; exact shr_U _ 58 (by decide)
  have hv : TB[(U (((1#64 <<< i) * 285870213051353865#64) >>> 58)).toNat * 1]? = some (.int .u8 (i : Int)) := by
    rw [Nat.mul_one, U_toNat]
    exact tab_get i hi
  have hw : IntKind.i64.wrap (i : Int) = (i : Int) := by rw [IntKind.wrap_i64]; omega
  rw [tz_eq x i hi hb hl]
  refine spec_of Tryd.func22 rfl Tryd.ntmps22 rfl ?_
  repeat' (first | (refine ex_regk (id := 0) (ts := [0]) ?_; ((try (first | refine o_as (v := .int _ _) (by decide) rfl ?_ | refine o_as (by decide) rfl ?_)) <;> (try (refine ops_nilk ?_; intro _)) <;> (try ((first | refine keep_cons (v := .int _ _) rfl ?_ | refine keep_cons (v := _) rfl ?_))) <;> (try refine keep_nil ?_))) | (refine ex_regk (id := 1) (ts := [0, 4]) ?_; ((try (first | refine o_mv (v := .int _ _) (by decide) rfl ?_ | refine o_mv (by decide) rfl ?_)) <;> (try (refine o_int (by decide) rfl rfl rfl ?_)) <;> (try (refine ops_nilk ?_; intro _)) <;> (try ((first | refine keep_cons (v := .int _ _) rfl ?_ | refine keep_cons (v := _) rfl ?_) <;> (first | refine keep_cons (v := .bool _) rfl ?_ | refine keep_cons (v := _) rfl ?_))) <;> (try refine keep_nil ?_))) | refine ex_seq ?_ | refine ex_block ?_ | refine ex_ret ?_ | refine ex_skip ?_ | refine ex_exit ?_ | refine ex_cond_t rfl ?_ | refine ex_cond_f rfl ?_ | refine ex_cond_t (congrArg Value.bool (by assumption)) ?_ | refine ex_cond_f (congrArg Value.bool (by assumption)) ?_ | (refine ex_split rfl ?_ ?_ <;> intro hc))
  repeat' (first | (refine ex_regk (id := 3) (ts := [2]) ?_; ((try (first | refine o_mv (v := .int _ _) (by decide) rfl ?_ | refine o_mv (by decide) rfl ?_)) <;> (try (first | refine o_mv (v := .int _ _) (by decide) rfl ?_ | refine o_mv (by decide) rfl ?_)) <;> (try (refine o_neg (by decide) rfl ?_)) <;> (try (refine o_int (by decide) rfl rfl rfl ?_)) <;> (try (refine o_int (by decide) rfl rfl rfl ?_)) <;> (try (refine o_shr (by decide) rfl rfl (by first | decide | assumption | omega) ?_)) <;> (try ((rw [e3]; refine o_indexA (by decide) rfl rfl h2 h1 ?_))) <;> (try (refine o_load_rb (by decide) rfl hv ?_)) <;> (try (refine o_conv (by decide) rfl ?_)) <;> (try (first | refine o_as (v := .int _ _) (by decide) rfl ?_ | refine o_as (by decide) rfl ?_)) <;> (try (refine ops_nilk ?_; intro _)) <;> (try ((first | refine keep_cons (v := .int _ _) rfl ?_ | refine keep_cons (v := _) rfl ?_))) <;> (try refine keep_nil ?_))) | refine ex_seq ?_ | refine ex_block ?_ | refine ex_ret ?_ | refine ex_skip ?_ | refine ex_exit ?_ | refine ex_cond_t rfl ?_ | refine ex_cond_f rfl ?_ | refine ex_cond_t (congrArg Value.bool (by assumption)) ?_ | refine ex_cond_f (congrArg Value.bool (by assumption)) ?_ | (refine ex_split rfl ?_ ?_ <;> intro hc))
  rw [hw]
  exact fin (.inr rfl) () (resl1 rfl (rv_tmp rfl)) trivial (Ent.refl _)
end Go.Proofs.YtcchbfpidcdbgaaDoorS
