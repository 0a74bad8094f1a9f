import Derived.Test.YtffhbdgoikkngaaM1
namespace Go.Proofs.YtffhbdgoikkngaaS
open Go.RowKit
theorem neg_U (x : BitVec 64) : IntKind.u64.wrap (0 - U x) = U (-x) := by
  unfold U; rw [IntKind.wrap_u64, BitVec.toNat_neg]; have := x.isLt; omega
theorem sub1_U (x : BitVec 64) : IntKind.u64.wrap (U x - 1) = U (x - 1#64) := by
  unfold U; rw [IntKind.wrap_u64, BitVec.toNat_sub]; have := x.isLt; have e : (1#64).toNat = 1 := rfl; rw [e]; omega
theorem add_U (x y : BitVec 64) : IntKind.u64.wrap (U x + U y) = U (x + y) := by
  unfold U; rw [IntKind.wrap_u64, BitVec.toNat_add]; omega
theorem mul_U (x y : BitVec 64) : IntKind.u64.wrap (U x * U y) = U (x * y) := by
  unfold U; rw [IntKind.wrap_u64, BitVec.toNat_mul, ← Int.natCast_mul]; omega
theorem shr_U (x : BitVec 64) (k : Nat) (h : k ≤ 64) : (U x).fdiv (2 ^ min ((k : Int).toNat) IntKind.u64.bits) = U (x >>> k) := by
  unfold U
  have e : min ((k : Int).toNat) IntKind.u64.bits = k := by rw [Int.toNat_natCast]; exact Nat.min_eq_left h
  rw [e, BitVec.toNat_ushiftRight, Nat.shiftRight_eq_div_pow]
  have : (2 : Int) ^ k = ((2 ^ k : Nat) : Int) := by simp
  rw [this, Int.fdiv_eq_ediv_of_nonneg _ (Int.natCast_nonneg _)]
  simp
theorem U_toNat (x : BitVec 64) : (U x).toNat = x.toNat := Int.toNat_natCast _
/-- The lowest number in a set that is not empty. -/
theorem low (x : BitVec 64) (h : x ≠ 0) : ∃ i, i < 64 ∧ x.getLsbD i = true ∧ ∀ j, j < i → x.getLsbD j = false := by
  have hex : ∃ i, i < 64 ∧ x.getLsbD i = true := by
    refine Classical.byContradiction fun hn => h ?_
    refine BitVec.eq_of_getLsbD_eq fun i hi => ?_
    have := fun hc => hn ⟨i, hi, hc⟩
    show x.getLsbD i = (0#64).getLsbD i
    rw [BitVec.getLsbD_zero]
    simpa using this
  have : ∀ n, (∃ i, i < n ∧ i < 64 ∧ x.getLsbD i = true) → ∃ i, i < 64 ∧ x.getLsbD i = true ∧ ∀ j, j < i → x.getLsbD j = false := by
    intro n
    induction n with
    | zero => rintro ⟨i, hi, _⟩; omega
    | succ n ih =>
      rintro ⟨i, hi, hi64, hb⟩
      by_cases hs : ∃ j, j < n ∧ j < 64 ∧ x.getLsbD j = true
      · exact ih hs
      · have hin : i = n := by
          by_cases h1 : i < n
          · exact absurd ⟨i, h1, hi64, hb⟩ hs
          · omega
        refine ⟨i, hi64, hb, fun j hj => ?_⟩
        cases hc : x.getLsbD j with
        | false => rfl
        | true => exact absurd ⟨j, by omega, by omega, hc⟩ hs
  obtain ⟨i, hi, hb⟩ := hex
  exact this 64 ⟨i, hi, hi, hb⟩
theorem and_neg (x : BitVec 64) (i : Nat) (hi : i < 64) (hb : x.getLsbD i = true) (hl : ∀ j, j < i → x.getLsbD j = false) : x &&& -x = 1#64 <<< i := by
  refine BitVec.eq_of_getLsbD_eq fun k hk => ?_
  rw [BitVec.getLsbD_and, BitVec.getLsbD_neg, BitVec.getLsbD_shiftLeft]
  rcases Nat.lt_trichotomy k i with h | h | h
  · rw [hl k h]; simp [h]
  · subst h
    have : ¬ ∃ j, j < k ∧ x.getLsbD j = true := fun ⟨j, hj, hc⟩ => by rw [hl j hj] at hc; cases hc
    simp [hb, this, hk]
  · have : ∃ j, j < k ∧ x.getLsbD j = true := ⟨i, h, hb⟩
    have h1 : ¬ k < i := by omega
    have h2 : (1#64).getLsbD (k - i) = false := by
      have : k - i ≠ 0 := by omega
      simp [BitVec.getLsbD_one, this]
    rw [h2]
    simp [this, hk]
theorem not_neg (x : BitVec 64) : ~~~(-x) = x - 1#64 := by
  refine BitVec.eq_of_toNat_eq ?_
  rw [BitVec.toNat_not, BitVec.toNat_neg, BitVec.toNat_sub]
  have := x.isLt
  have e : (1#64).toNat = 1 := rfl
  rw [e]; omega
/-- A set without its lowest number. -/
theorem and_pred (x : BitVec 64) (i : Nat) (hi : i < 64) (hb : x.getLsbD i = true) (hl : ∀ j, j < i → x.getLsbD j = false) (k : Nat) : (x &&& (x - 1#64)).getLsbD k = (x.getLsbD k && !decide (k = i)) := by
  by_cases hk : k < 64
  · rw [← not_neg, BitVec.getLsbD_and, BitVec.getLsbD_not, BitVec.getLsbD_neg]
    rcases Nat.lt_trichotomy k i with h | h | h
    · rw [hl k h]; simp
    · subst h
      have : ¬ ∃ j, j < k ∧ x.getLsbD j = true := fun ⟨j, hj, hc⟩ => by rw [hl j hj] at hc; cases hc
      simp [this, hk]
    · have : ∃ j, j < k ∧ x.getLsbD j = true := ⟨i, h, hb⟩
      have h1 : k ≠ i := by omega
      cases hx : x.getLsbD k
      · rfl
      · simp only [this, hk, h1, decide_true, decide_false, Bool.not_false, Bool.and_true, Bool.not_true, Bool.xor_true]
  · rw [BitVec.getLsbD_of_ge _ _ (by omega), BitVec.getLsbD_of_ge _ _ (by omega)]; rfl
def tz (x : BitVec 64) : Nat := ((List.range 64).find? (x.getLsbD ·)).getD 64
theorem tz_eq (x : BitVec 64) (i : Nat) (hi : i < 64) (hb : x.getLsbD i = true) (hl : ∀ j, j < i → x.getLsbD j = false) : tz x = i := by
  unfold tz
  have : (List.range 64).find? (x.getLsbD ·) = some i := by
    rw [List.find?_range_eq_some]
    exact ⟨hb, by simpa using hi, fun j hj => by simp [hl j hj]⟩
  rw [this]; rfl
end Go.Proofs.YtffhbdgoikkngaaS
