/- Plain arithmetic for chapter 3: folding an int, its bytes, and the bit operations on them as sums. No condition but the ranges that each lemma names. -/
import Derived.Test.YtoikgdmmcbaeiaaProg
import Derived.WalkKit
import Derived.Laws.Bits64
import Derived.Test.YtoikgdmmcbaeiaaWWords
import Derived.Test.YtoikgdmmcbaeiaaWMore
namespace Go.Proofs.Ytoikgdmmcbaeiaa.VM
open Go.RowKit Go.Proofs.YtoikgdmmcbaeiaaW.PrintWords Go.Proofs.YtoikgdmmcbaeiaaW.PrintMore

def zz (n : Int) : Int := if 0 ≤ n then 2 * n else -2 * n - 1
def unzz (u : Int) : Int := if u % 2 = 0 then u / 2 else -(u / 2) - 1
def enc : Nat → Int → List Int
  | 0, u => [u]
  | f + 1, u => if u ≥ 128 then (u % 128 + 128) :: enc f (u / 128) else [u]

theorem unzz_zz (n : Int) : unzz (zz n) = n := by unfold unzz zz; split <;> split <;> omega
theorem zz_unzz (u : Int) (h : 0 ≤ u) : zz (unzz u) = u := by unfold unzz zz; split <;> split <;> omega
theorem zz_lo (n : Int) : 0 ≤ zz n := by unfold zz; split <;> omega
theorem zz_hi (n : Int) (h1 : -9223372036854775808 ≤ n) (h2 : n ≤ 9223372036854775807) : zz n < 18446744073709551616 := by unfold zz; split <;> omega
theorem unzz_lo (u : Int) (h : 0 ≤ u) (h2 : u < 18446744073709551616) : -9223372036854775808 ≤ unzz u ∧ unzz u ≤ 9223372036854775807 := by unfold unzz; split <;> omega

theorem wf_i64 {n : Int} (h : (Lit.int .i64 n).wf = true) : -9223372036854775808 ≤ n ∧ n ≤ 9223372036854775807 := by
  simp [Lit.wf, IntKind.min, IntKind.max, IntKind.bits, IntKind.signed] at h
  omega
theorem wf_u8 {n : Int} (h : (Lit.int .u8 n).wf = true) : 0 ≤ n ∧ n < 256 := by
  simp [Lit.wf, IntKind.min, IntKind.max, IntKind.bits, IntKind.signed] at h
  omega
theorem wu (n : Int) : IntKind.u64.wrap n = n % 18446744073709551616 := IntKind.wrap_u64 n

theorem bxu (x y : Int) : Go.bits .xor .u64 x y = IntKind.u64.wrap ((BitVec.ofInt 64 x ^^^ BitVec.ofInt 64 y).toNat : Int) := rfl
theorem bxi (x y : Int) : Go.bits .xor .i64 x y = IntKind.i64.wrap ((BitVec.ofInt 64 x ^^^ BitVec.ofInt 64 y).toNat : Int) := rfl
theorem bau (x y : Int) : Go.bits .and .u64 x y = IntKind.u64.wrap ((BitVec.ofInt 64 x &&& BitVec.ofInt 64 y).toNat : Int) := rfl
theorem bou (x y : Int) : Go.bits .or .u64 x y = IntKind.u64.wrap ((BitVec.ofInt 64 x ||| BitVec.ofInt 64 y).toNat : Int) := rfl

theorem fold_eq (n : Int) (h1 : -9223372036854775808 ≤ n) (h2 : n ≤ 9223372036854775807) :
    Go.bits .xor .u64 (IntKind.u64.wrap ((IntKind.u64.wrap n) * 2)) (IntKind.u64.wrap (n / 9223372036854775808)) = zz n := by
  have e1 : IntKind.u64.wrap ((IntKind.u64.wrap n) * 2) = (n * 2) % 18446744073709551616 := by rw [wu, wu]; omega
  rw [e1]
  by_cases h : 0 ≤ n
  · have e2 : IntKind.u64.wrap (n / 9223372036854775808) = 0 := by rw [wu]; omega
    have ez : BitVec.ofInt 64 0 = 0#64 := by decide
    rw [e2, bxu, ez, BitVec.xor_zero, BitVec.toNat_ofInt, wu]
    unfold zz
    rw [if_pos h]
    omega
  · have e2 : IntKind.u64.wrap (n / 9223372036854775808) = 18446744073709551615 := by rw [wu]; omega
    have e3 : BitVec.ofInt 64 18446744073709551615 = BitVec.allOnes 64 := by decide
    rw [e2, bxu, e3, BitVec.xor_allOnes, BitVec.toNat_not, BitVec.toNat_ofInt, wu]
    unfold zz
    rw [if_neg h]
    omega

theorem or128 (x : Int) (h0 : 0 ≤ x) (h1 : x < 256) : Go.bits .or .u8 x 128 = x % 128 + 128 := by
  obtain ⟨n, rfl⟩ := Int.eq_ofNat_of_zero_le h0
  have : ∀ m : Fin 256, Go.bits .or .u8 (m.val : Int) 128 = (m.val : Int) % 128 + 128 := by decide +kernel
  exact this ⟨n, by omega⟩
theorem and127 (x : Int) (h0 : 0 ≤ x) (h1 : x < 256) : Go.bits .and .u8 x 127 = x % 128 := by
  obtain ⟨n, rfl⟩ := Int.eq_ofNat_of_zero_le h0
  have : ∀ m : Fin 256, Go.bits .and .u8 (m.val : Int) 127 = (m.val : Int) % 128 := by decide +kernel
  exact this ⟨n, by omega⟩
theorem and1 (u : Int) (h0 : 0 ≤ u) (h1 : u < 18446744073709551616) : Go.bits .and .u64 u 1 = u % 2 := by
  obtain ⟨n, rfl⟩ := Int.eq_ofNat_of_zero_le h0
  rw [bau, wu, BitVec.toNat_and, BitVec.toNat_ofInt, BitVec.toNat_ofInt]
  have e : ((n : Int) % ((2 ^ 64 : Nat) : Int)).toNat = n := by omega
  have e1 : ((1 : Int) % ((2 ^ 64 : Nat) : Int)).toNat = 1 := by decide
  rw [e, e1, Nat.and_one_is_mod]
  omega

theorem or_add (acc y : Int) (s : Nat) (ha : 0 ≤ acc) (ha2 : acc < 2 ^ s) (hy : 0 ≤ y) (hs : acc + y * 2 ^ s < 18446744073709551616) :
    Go.bits .or .u64 acc (y * 2 ^ s) = acc + y * 2 ^ s := by
  obtain ⟨a, rfl⟩ := Int.eq_ofNat_of_zero_le ha
  obtain ⟨b, rfl⟩ := Int.eq_ofNat_of_zero_le hy
  have hp : (0 : Int) < 2 ^ s := Int.pow_pos (by decide)
  have hm : (0 : Int) ≤ (b : Int) * 2 ^ s := Int.mul_nonneg hy (Int.le_of_lt hp)
  rw [bou, wu, BitVec.toNat_or, BitVec.toNat_ofInt, BitVec.toNat_ofInt]
  have e : ((a : Int) % ((2 ^ 64 : Nat) : Int)).toNat = a := by omega
  have e1 : ((b : Int) * 2 ^ s) = ((b * 2 ^ s : Nat) : Int) := by simp
  have e2 : ((((b * 2 ^ s : Nat) : Int)) % ((2 ^ 64 : Nat) : Int)).toNat = b * 2 ^ s := by
    rw [e1] at hs hm; omega
  rw [e1, e, e2]
  have ha3 : a < 2 ^ s := by exact_mod_cast ha2
  have e3 : a ||| b * 2 ^ s = a + b * 2 ^ s := by
    rw [Nat.or_comm, Nat.mul_comm b, ← Nat.two_pow_add_eq_or_of_lt ha3, Nat.add_comm]
  rw [e3]
  rw [e1] at hs
  omega

theorem shl_eq (y : Int) (i : Int) (hi : 0 ≤ i) (hi9 : i ≤ 9) (hy : 0 ≤ y) (hy2 : y * 2 ^ (7 * i.toNat) < 18446744073709551616) :
    shl .u64 (IntKind.u64.wrap y) (wrap64 (7 * i)) = y * 2 ^ (7 * i.toNat) := by
  have e : wrap64 (7 * i) = 7 * i := by unfold wrap64; omega
  have hp : (1 : Int) ≤ 2 ^ (7 * i.toNat) := Int.pow_pos (by decide)
  have hy3 : y ≤ y * 2 ^ (7 * i.toNat) := by
    have := Int.mul_le_mul_of_nonneg_left hp hy
    omega
  have hm : 0 ≤ y * 2 ^ (7 * i.toNat) := by omega
  unfold shl
  rw [e]
  have e1 : min (7 * i).toNat IntKind.u64.bits = 7 * i.toNat := by simp [IntKind.bits]; omega
  have e2 : IntKind.u64.wrap y = y := by rw [wu]; omega
  rw [e1, e2, wu]
  omega

theorem unfold_eq (u : Int) (h0 : 0 ≤ u) (h1 : u < 18446744073709551616) :
    Go.bits .xor .i64 (wrap64 (u / 2)) (wrap64 (-(wrap64 (Go.bits .and .u64 u 1)))) = unzz u := by
  rw [and1 u h0 h1]
  have e0 : wrap64 (u / 2) = u / 2 := by unfold wrap64; omega
  rw [e0]
  unfold unzz
  by_cases h : u % 2 = 0
  · have e : wrap64 (-(wrap64 (u % 2))) = 0 := by unfold wrap64; omega
    have ez : BitVec.ofInt 64 0 = 0#64 := by decide
    rw [e, if_pos h, bxi, ez, BitVec.xor_zero, BitVec.toNat_ofInt, IntKind.wrap_i64]
    omega
  · have e : wrap64 (-(wrap64 (u % 2))) = -1 := by unfold wrap64; omega
    have ez : BitVec.ofInt 64 (-1) = BitVec.allOnes 64 := by decide
    rw [e, if_neg h, bxi, ez, BitVec.xor_allOnes, BitVec.toNat_not, BitVec.toNat_ofInt, IntKind.wrap_i64]
    omega

theorem enc_pos (f : Nat) (u : Int) : 0 < (enc f u).length := by
  cases f with
  | zero => simp [enc]
  | succ f => unfold enc; split <;> simp
theorem enc_len (f : Nat) : ∀ u : Int, (enc f u).length ≤ f + 1 := by
  induction f with
  | zero => intro u; simp [enc]
  | succ f ih =>
    intro u
    unfold enc
    split
    · have := ih (u / 128); simp; omega
    · simp
theorem pow128 (f : Nat) (u : Int) (h : u < 128 ^ (f + 2)) : u / 128 < 128 ^ (f + 1) := by
  have e : (128 : Int) ^ (f + 2) = 128 ^ (f + 1) * 128 := Int.pow_succ ..
  rw [e] at h
  exact Int.ediv_lt_of_lt_mul (by decide) h
theorem enc_byte (f : Nat) : ∀ (u : Int), 0 ≤ u → u < 128 ^ (f + 1) → ∀ b ∈ enc f u, 0 ≤ b ∧ b < 256 := by
  induction f with
  | zero => intro u h0 h1 b hb; simp [enc] at hb h1; omega
  | succ f ih =>
    intro u h0 h1 b hb
    unfold enc at hb
    split at hb
    · rcases List.mem_cons.1 hb with hb | hb
      · omega
      · exact ih (u / 128) (by omega) (pow128 f u h1) b hb
    · simp at hb; omega
/-- All bytes but the last have their highest bit set; the last hasn't. -/
theorem enc_split (f : Nat) : ∀ (u : Int), 0 ≤ u → u < 128 ^ (f + 1) → ∃ l x, enc f u = l ++ [x] ∧ (∀ b ∈ l, 128 ≤ b ∧ b < 256) ∧ 0 ≤ x ∧ x < 128 := by
  induction f with
  | zero => intro u h0 h1; exact ⟨[], u, by simp [enc], by simp, h0, by simpa using h1⟩
  | succ f ih =>
    intro u h0 h1
    by_cases h : u ≥ 128
    · obtain ⟨l, x, e, hl, hx⟩ := ih (u / 128) (by omega) (pow128 f u h1)
      refine ⟨(u % 128 + 128) :: l, x, ?_, ?_, hx⟩
      · simp only [enc]; rw [if_pos h, e]; rfl
      · intro b hb
        rcases List.mem_cons.1 hb with hb | hb
        · omega
        · exact hl b hb
    · exact ⟨[], u, by simp only [enc]; rw [if_neg h]; rfl, by simp, h0, by omega⟩
theorem enc_inj (f : Nat) : ∀ (u v : Int) (r s : List Int), 0 ≤ u → 0 ≤ v → u < 128 ^ (f + 1) → v < 128 ^ (f + 1) → enc f u ++ r = enc f v ++ s → u = v ∧ r = s := by
  induction f with
  | zero => intro u v r s _ _ _ _ h; simpa [enc] using h
  | succ f ih =>
    intro u v r s hu hv hu2 hv2 h
    unfold enc at h
    split at h <;> split at h
    · simp at h
      have := ih (u / 128) (v / 128) r s (by omega) (by omega) (pow128 f u hu2) (pow128 f v hv2) h.2
      exact ⟨by omega, this.2⟩
    · simp at h; omega
    · simp at h; omega
    · simpa using h
theorem enc_mono (f : Nat) : ∀ (u v : Int), u ≤ v → (enc f u).length ≤ (enc f v).length := by
  induction f with
  | zero => intro u v _; simp [enc]
  | succ f ih =>
    intro u v h
    unfold enc
    split <;> split
    · have := ih (u / 128) (v / 128) (by omega); simpa using this
    · omega
    · simp
    · simp
theorem enc_odd (f : Nat) (x : Int) : (enc f (2 * x + 1)).length = (enc f (2 * x)).length := by
  cases f with
  | zero => simp [enc]
  | succ f =>
    unfold enc
    have e : (2 * x + 1) / 128 = 2 * x / 128 := by omega
    rw [e]
    split <;> split <;> first | omega | simp
theorem enc_small (f : Nat) (u : Int) (h : u < 128) : enc f u = [u] := by
  cases f with
  | zero => rfl
  | succ f => simp only [enc]; rw [if_neg (by omega)]

end Go.Proofs.Ytoikgdmmcbaeiaa.VM
