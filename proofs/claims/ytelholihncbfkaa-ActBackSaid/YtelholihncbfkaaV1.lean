import Derived.Test.YtelholihncbfkaaTc
namespace Go.Proofs.YtelholihncbfkaaS
open Go.RowKit
set_option linter.unusedVariables false
set_option linter.unusedSimpArgs false
def zz (n : Int) : Int := if 0 ≤ n then 2 * n else -2 * n - 1
def unzz (u : Int) : Int := if u % 2 = 0 then u / 2 else -(u / 2) - 1
def enc : Nat → Int → List Int
  | 0, u => [u]
  | f + 1, u => if u ≥ 128 then (u % 128 + 128) :: enc f (u / 128) else [u]

theorem unzz_zz (n : Int) : unzz (zz n) = n := by unfold unzz zz; split <;> split <;> omega
theorem zz_unzz (u : Int) (h : 0 ≤ u) : zz (unzz u) = u := by unfold unzz zz; split <;> split <;> omega
theorem zz_lo (n : Int) : 0 ≤ zz n := by unfold zz; split <;> omega
theorem zz_hi (n : Int) (h1 : -9223372036854775808 ≤ n) (h2 : n ≤ 9223372036854775807) : zz n < 18446744073709551616 := by unfold zz; split <;> omega
theorem unzz_lo (u : Int) (h : 0 ≤ u) (h2 : u < 18446744073709551616) : -9223372036854775808 ≤ unzz u ∧ unzz u ≤ 9223372036854775807 := by unfold unzz; split <;> omega

theorem wf_i64 {n : Int} (h : (Lit.int .i64 n).wf = true) : -9223372036854775808 ≤ n ∧ n ≤ 9223372036854775807 := by
  simp [Lit.wf, IntKind.min, IntKind.max, IntKind.bits, IntKind.signed] at h
  omega
theorem wf_u8 {n : Int} (h : (Lit.int .u8 n).wf = true) : 0 ≤ n ∧ n < 256 := by
  simp [Lit.wf, IntKind.min, IntKind.max, IntKind.bits, IntKind.signed] at h
  omega
theorem wu (n : Int) : IntKind.u64.wrap n = n % 18446744073709551616 := IntKind.wrap_u64 n

theorem bxu (x y : Int) : Go.bits .xor .u64 x y = IntKind.u64.wrap ((BitVec.ofInt 64 x ^^^ BitVec.ofInt 64 y).toNat : Int) := rfl
theorem bxi (x y : Int) : Go.bits .xor .i64 x y = IntKind.i64.wrap ((BitVec.ofInt 64 x ^^^ BitVec.ofInt 64 y).toNat : Int) := rfl
theorem bau (x y : Int) : Go.bits .and .u64 x y = IntKind.u64.wrap ((BitVec.ofInt 64 x &&& BitVec.ofInt 64 y).toNat : Int) := rfl
theorem bou (x y : Int) : Go.bits .or .u64 x y = IntKind.u64.wrap ((BitVec.ofInt 64 x ||| BitVec.ofInt 64 y).toNat : Int) := rfl

theorem fold_eq (n : Int) (h1 : -9223372036854775808 ≤ n) (h2 : n ≤ 9223372036854775807) :
    Go.bits .xor .u64 (IntKind.u64.wrap ((IntKind.u64.wrap n) * 2 ^ min ((1 : Int).toNat) IntKind.u64.bits)) (IntKind.u64.wrap (n.fdiv (2 ^ min ((63 : Int).toNat) IntKind.i64.bits))) = zz n := by
  have p1 : (2 : Int) ^ min ((1 : Int).toNat) IntKind.u64.bits = 2 := by decide
  have p2 : (2 : Int) ^ min ((63 : Int).toNat) IntKind.i64.bits = 9223372036854775808 := by decide
  rw [p1, p2, Int.fdiv_eq_ediv_of_nonneg _ (by decide)]
  have e1 : IntKind.u64.wrap ((IntKind.u64.wrap n) * 2) = (n * 2) % 18446744073709551616 := by rw [wu, wu]; omega
  rw [e1]
  by_cases h : 0 ≤ n
  · have e2 : IntKind.u64.wrap (n / 9223372036854775808) = 0 := by rw [wu]; omega
    have ez : BitVec.ofInt 64 0 = 0#64 := by decide
    rw [e2, bxu, ez, BitVec.xor_zero, BitVec.toNat_ofInt, wu]
    unfold zz
    rw [if_pos h]
    omega
  · have e2 : IntKind.u64.wrap (n / 9223372036854775808) = 18446744073709551615 := by rw [wu]; omega
    have e3 : BitVec.ofInt 64 18446744073709551615 = BitVec.allOnes 64 := by decide
    rw [e2, bxu, e3, BitVec.xor_allOnes, BitVec.toNat_not, BitVec.toNat_ofInt, wu]
    unfold zz
    rw [if_neg h]
    omega

theorem or128 (x : Int) (h0 : 0 ≤ x) (h1 : x < 256) : Go.bits .or .u8 x 128 = x % 128 + 128 := by
  obtain ⟨n, rfl⟩ := Int.eq_ofNat_of_zero_le h0
  have : ∀ m : Fin 256, Go.bits .or .u8 (m.val : Int) 128 = (m.val : Int) % 128 + 128 := by decide +kernel
  exact this ⟨n, by omega⟩
theorem and127 (x : Int) (h0 : 0 ≤ x) (h1 : x < 256) : Go.bits .and .u8 x 127 = x % 128 := by
  obtain ⟨n, rfl⟩ := Int.eq_ofNat_of_zero_le h0
  have : ∀ m : Fin 256, Go.bits .and .u8 (m.val : Int) 127 = (m.val : Int) % 128 := by decide +kernel
  exact this ⟨n, by omega⟩
theorem and1 (u : Int) (h0 : 0 ≤ u) (h1 : u < 18446744073709551616) : Go.bits .and .u64 u 1 = u % 2 := by
  obtain ⟨n, rfl⟩ := Int.eq_ofNat_of_zero_le h0
  rw [bau, wu, BitVec.toNat_and, BitVec.toNat_ofInt, BitVec.toNat_ofInt]
  have e : ((n : Int) % ((2 ^ 64 : Nat) : Int)).toNat = n := by omega
  have e1 : ((1 : Int) % ((2 ^ 64 : Nat) : Int)).toNat = 1 := by decide
  rw [e, e1, Nat.and_one_is_mod]
  omega

theorem or_add (acc y : Int) (s : Nat) (ha : 0 ≤ acc) (ha2 : acc < 2 ^ s) (hy : 0 ≤ y) (hs : acc + y * 2 ^ s < 18446744073709551616) :
    Go.bits .or .u64 acc (y * 2 ^ s) = acc + y * 2 ^ s := by
  obtain ⟨a, rfl⟩ := Int.eq_ofNat_of_zero_le ha
  obtain ⟨b, rfl⟩ := Int.eq_ofNat_of_zero_le hy
  have hp : (0 : Int) < 2 ^ s := Int.pow_pos (by decide)
  have hm : (0 : Int) ≤ (b : Int) * 2 ^ s := Int.mul_nonneg hy (Int.le_of_lt hp)
  rw [bou, wu, BitVec.toNat_or, BitVec.toNat_ofInt, BitVec.toNat_ofInt]
  have e : ((a : Int) % ((2 ^ 64 : Nat) : Int)).toNat = a := by omega
  have e1 : ((b : Int) * 2 ^ s) = ((b * 2 ^ s : Nat) : Int) := by simp
  have e2 : ((((b * 2 ^ s : Nat) : Int)) % ((2 ^ 64 : Nat) : Int)).toNat = b * 2 ^ s := by
    rw [e1] at hs hm; omega
  rw [e1, e, e2]
  have ha3 : a < 2 ^ s := by exact_mod_cast ha2
  have e3 : a ||| b * 2 ^ s = a + b * 2 ^ s := by
    rw [Nat.or_comm, Nat.mul_comm b, ← Nat.two_pow_add_eq_or_of_lt ha3, Nat.add_comm]
  rw [e3]
  rw [e1] at hs
  omega

theorem next_or (acc x : Int) (i : Nat) (hi : i ≤ 9) (hx : 0 ≤ x) (ha : 0 ≤ acc) (ha2 : acc < 2 ^ (7 * i)) (hs : acc + (x % 128) * 2 ^ (7 * i) < 18446744073709551616) :
    Go.bits .or .u64 acc (IntKind.u64.wrap (IntKind.u64.wrap (x % 128) * 2 ^ min ((IntKind.i64.wrap (7 * (i : Int))).toNat) IntKind.u64.bits)) = acc + (x % 128) * 2 ^ (7 * i) := by
  have e : IntKind.i64.wrap (7 * (i : Int)) = 7 * (i : Int) := by rw [IntKind.wrap_i64]; omega
  have e1 : min (7 * (i : Int)).toNat IntKind.u64.bits = 7 * i := by simp [IntKind.bits]; omega
  have e2 : IntKind.u64.wrap (x % 128) = x % 128 := by rw [wu]; omega
  have hp : (0 : Int) < 2 ^ (7 * i) := Int.pow_pos (by decide)
  have hm : (0 : Int) ≤ (x % 128) * 2 ^ (7 * i) := Int.mul_nonneg (by omega) (Int.le_of_lt hp)
  have e3 : IntKind.u64.wrap ((x % 128) * 2 ^ (7 * i)) = (x % 128) * 2 ^ (7 * i) := by rw [wu]; omega
  rw [e, e1, e2, e3]
  exact or_add acc (x % 128) (7 * i) ha ha2 (by omega) hs
theorem unfold_eq (u : Int) (h0 : 0 ≤ u) (h1 : u < 18446744073709551616) :
    Go.bits .xor .i64 (IntKind.i64.wrap (u.fdiv (2 ^ min ((1 : Int).toNat) IntKind.u64.bits))) (IntKind.i64.wrap (0 - IntKind.i64.wrap (Go.bits .and .u64 u 1))) = unzz u := by
  have p1 : (2 : Int) ^ min ((1 : Int).toNat) IntKind.u64.bits = 2 := by decide
  rw [p1, Int.fdiv_eq_ediv_of_nonneg _ (by decide), and1 u h0 h1]
  have e0 : IntKind.i64.wrap (u / 2) = u / 2 := by rw [IntKind.wrap_i64]; omega
  rw [e0]
  unfold unzz
  by_cases h : u % 2 = 0
  · have e : IntKind.i64.wrap (0 - IntKind.i64.wrap (u % 2)) = 0 := by rw [IntKind.wrap_i64, IntKind.wrap_i64]; omega
    have ez : BitVec.ofInt 64 0 = 0#64 := by decide
    rw [e, if_pos h, bxi, ez, BitVec.xor_zero, BitVec.toNat_ofInt, IntKind.wrap_i64]
    omega
  · have e : IntKind.i64.wrap (0 - IntKind.i64.wrap (u % 2)) = -1 := by rw [IntKind.wrap_i64, IntKind.wrap_i64]; omega
    have ez : BitVec.ofInt 64 (-1) = BitVec.allOnes 64 := by decide
    rw [e, if_neg h, bxi, ez, BitVec.xor_allOnes, BitVec.toNat_not, BitVec.toNat_ofInt, IntKind.wrap_i64]
    omega
theorem shr7_eq (u : Int) : u.fdiv (2 ^ min ((7 : Int).toNat) IntKind.u64.bits) = u / 128 := by
  have p1 : (2 : Int) ^ min ((7 : Int).toNat) IntKind.u64.bits = 128 := by decide
  rw [p1, Int.fdiv_eq_ediv_of_nonneg _ (by decide)]
theorem byte_or (u : Int) : Go.bits .or .u8 (IntKind.u8.wrap u) 128 = u % 128 + 128 := by
  have e : IntKind.u8.wrap u = u % 256 := IntKind.wrap_u8 u
  rw [e, or128 _ (by omega) (by omega)]
  omega
theorem enc_pos (f : Nat) (u : Int) : 0 < (enc f u).length := by
  cases f with
  | zero => simp [enc]
  | succ f => unfold enc; split <;> simp
theorem enc_len (f : Nat) : ∀ u : Int, (enc f u).length ≤ f + 1 := by
  induction f with
  | zero => intro u; simp [enc]
  | succ f ih =>
    intro u
    unfold enc
    split
    · have := ih (u / 128); simp; omega
    · simp
theorem pow128 (f : Nat) (u : Int) (h : u < 128 ^ (f + 2)) : u / 128 < 128 ^ (f + 1) := by
  have e : (128 : Int) ^ (f + 2) = 128 ^ (f + 1) * 128 := Int.pow_succ ..
  rw [e] at h
  exact Int.ediv_lt_of_lt_mul (by decide) h
theorem enc_byte (f : Nat) : ∀ (u : Int), 0 ≤ u → u < 128 ^ (f + 1) → ∀ b ∈ enc f u, 0 ≤ b ∧ b < 256 := by
  induction f with
  | zero => intro u h0 h1 b hb; simp [enc] at hb h1; omega
  | succ f ih =>
    intro u h0 h1 b hb
    unfold enc at hb
    split at hb
    · rcases List.mem_cons.1 hb with hb | hb
      · omega
      · exact ih (u / 128) (by omega) (pow128 f u h1) b hb
    · simp at hb; omega
/-- All bytes but the last have their highest bit set; the last hasn't. -/
theorem enc_split (f : Nat) : ∀ (u : Int), 0 ≤ u → u < 128 ^ (f + 1) → ∃ l x, enc f u = l ++ [x] ∧ (∀ b ∈ l, 128 ≤ b ∧ b < 256) ∧ 0 ≤ x ∧ x < 128 := by
  induction f with
  | zero => intro u h0 h1; exact ⟨[], u, by simp [enc], by simp, h0, by simpa using h1⟩
  | succ f ih =>
    intro u h0 h1
    by_cases h : u ≥ 128
    · obtain ⟨l, x, e, hl, hx⟩ := ih (u / 128) (by omega) (pow128 f u h1)
      refine ⟨(u % 128 + 128) :: l, x, ?_, ?_, hx⟩
      · simp only [enc]; rw [if_pos h, e]; rfl
      · intro b hb
        rcases List.mem_cons.1 hb with hb | hb
        · omega
        · exact hl b hb
    · exact ⟨[], u, by simp only [enc]; rw [if_neg h]; rfl, by simp, h0, by omega⟩
theorem enc_inj (f : Nat) : ∀ (u v : Int) (r s : List Int), 0 ≤ u → 0 ≤ v → u < 128 ^ (f + 1) → v < 128 ^ (f + 1) → enc f u ++ r = enc f v ++ s → u = v ∧ r = s := by
  induction f with
  | zero => intro u v r s _ _ _ _ h; simpa [enc] using h
  | succ f ih =>
    intro u v r s hu hv hu2 hv2 h
    unfold enc at h
    split at h <;> split at h
    · simp at h
      have := ih (u / 128) (v / 128) r s (by omega) (by omega) (pow128 f u hu2) (pow128 f v hv2) h.2
      exact ⟨by omega, this.2⟩
    · simp at h; omega
    · simp at h; omega
    · simpa using h
theorem enc_mono (f : Nat) : ∀ (u v : Int), u ≤ v → (enc f u).length ≤ (enc f v).length := by
  induction f with
  | zero => intro u v _; simp [enc]
  | succ f ih =>
    intro u v h
    unfold enc
    split <;> split
    · have := ih (u / 128) (v / 128) (by omega); simpa using this
    · omega
    · simp
    · simp
theorem enc_odd (f : Nat) (x : Int) : (enc f (2 * x + 1)).length = (enc f (2 * x)).length := by
  cases f with
  | zero => simp [enc]
  | succ f =>
    unfold enc
    have e : (2 * x + 1) / 128 = 2 * x / 128 := by omega
    rw [e]
    split <;> split <;> first | omega | simp
theorem enc_small (f : Nat) (u : Int) (h : u < 128) : enc f u = [u] := by
  cases f with
  | zero => rfl
  | succ f => simp only [enc]; rw [if_neg (by omega)]


/-- The first int of bytes, folded, and how many bytes it has: of at most f + 1 bytes; the last of them is not nought, unless it is the first. -/
def vnx : Nat → Bool → List Int → Option (Int × Nat)
  | _, _, [] => none
  | f, b, x :: t => if x < 128 then (if (!b && x == 0) || (f == 0 && decide (x > 1)) then none else some (x, 1)) else
    match f with
    | 0 => none
    | f + 1 => (vnx f false t).map (fun r => (x - 128 + 128 * r.1, r.2 + 1))
def bnd : Nat → Int
  | 0 => 2
  | f + 1 => 128 * bnd f
theorem bnd9 : bnd 9 = 18446744073709551616 := by decide
theorem bnd_pos (f : Nat) : 2 ≤ bnd f := by
  induction f with
  | zero => decide
  | succ f ih => unfold bnd; omega
theorem vnx_enc (f : Nat) : ∀ (b : Bool) (u : Int) (r : List Int), 0 ≤ u → u < bnd f → (b = true ∨ u ≠ 0) → vnx f b (enc f u ++ r) = some (u, (enc f u).length) := by
  induction f with
  | zero =>
    intro b u r h0 h1 h2
    have h1 : u < 2 := h1
    have d1 : decide (u > 1) = false := decide_eq_false (by omega)
    simp only [enc, List.cons_append, List.nil_append, vnx, List.length_singleton]
    rw [if_pos (by omega), if_neg]
    rw [d1]
    rcases h2 with rfl | h2
    · simp
    · have : (u == 0) = false := by simpa using h2
      simp [this]
  | succ f ih =>
    intro b u r h0 h1 h2
    have hb : bnd (f + 1) = 128 * bnd f := rfl
    by_cases h : u ≥ 128
    · have e : enc (f + 1) u = (u % 128 + 128) :: enc f (u / 128) := by simp only [enc]; rw [if_pos h]
      rw [e, List.cons_append]
      have := ih false (u / 128) r (by omega) (by omega) (.inr (by omega))
      simp only [vnx]
      rw [if_neg (by omega), this]
      simp only [Option.map_some, List.length_cons, Option.some.injEq, Prod.mk.injEq, and_true]
      have : u % 128 + 128 * (u / 128) = u := Int.emod_add_mul_ediv u 128
      omega
    · have e : enc (f + 1) u = [u] := by simp only [enc]; rw [if_neg h]
      rw [e, List.cons_append, List.nil_append]
      simp only [vnx, List.length_singleton]
      rw [if_pos (by omega), if_neg]
      rcases h2 with rfl | h2
      · simp
      · have : (u == 0) = false := by simpa using h2
        simp [this]
theorem vnx_inv (f : Nat) : ∀ (b : Bool) (l : List Int) (v : Int) (k : Nat), (∀ x ∈ l, 0 ≤ x ∧ x < 256) → vnx f b l = some (v, k) → l = enc f v ++ l.drop k ∧ k = (enc f v).length ∧ 0 ≤ v ∧ v < bnd f ∧ (b = true ∨ v ≠ 0) := by
  induction f with
  | zero =>
    intro b l v k hl h
    cases l with
    | nil => simp [vnx] at h
    | cons x t =>
      simp only [vnx] at h
      have hx := hl x (List.mem_cons_self ..)
      split at h
      · split at h
        · cases h
        · rename_i h1 h2
          simp only [Option.some.injEq, Prod.mk.injEq] at h
          obtain ⟨rfl, rfl⟩ := h
          have h2' : ((!b && x == 0) || ((0 : Nat) == 0 && decide (x > 1))) = false := by simpa using h2
          rw [Bool.or_eq_false_iff] at h2'
          refine ⟨by simp [enc], by simp [enc], by omega, ?_, ?_⟩
          · have := h2'.2; simp at this; show x < 2; omega
          · have := h2'.1; cases b <;> simp_all
      · cases h
  | succ f ih =>
    intro b l v k hl h
    cases l with
    | nil => simp [vnx] at h
    | cons x t =>
      simp only [vnx] at h
      have hx := hl x (List.mem_cons_self ..)
      have hb : bnd (f + 1) = 128 * bnd f := rfl
      have hp := bnd_pos f
      split at h
      · split at h
        · cases h
        · rename_i h1 h2
          simp only [Option.some.injEq, Prod.mk.injEq] at h
          obtain ⟨rfl, rfl⟩ := h
          have h2' : ((!b && x == 0) || ((f + 1 : Nat) == 0 && decide (x > 1))) = false := by simpa using h2
          rw [Bool.or_eq_false_iff] at h2'
          have e : enc (f + 1) x = [x] := enc_small (f + 1) x h1
          refine ⟨by rw [e]; simp, by rw [e]; rfl, by omega, by omega, ?_⟩
          have := h2'.1; cases b <;> simp_all
      · rename_i h1
        rw [Option.map_eq_some_iff] at h
        obtain ⟨⟨v', k'⟩, h2, h3⟩ := h
        simp only [Prod.mk.injEq] at h3
        obtain ⟨rfl, rfl⟩ := h3
        obtain ⟨g1, g2, g3, g4, g5⟩ := ih false t v' k' (fun y hy => hl y (List.mem_cons_of_mem _ hy)) h2
        have g5 : v' ≠ 0 := by simpa using g5
        have e : enc (f + 1) (x - 128 + 128 * v') = x :: enc f v' := by
          simp only [enc]
          rw [if_pos (by omega), show (x - 128 + 128 * v') % 128 + 128 = x by omega, show (x - 128 + 128 * v') / 128 = v' by omega]
        refine ⟨?_, ?_, by omega, by omega, .inr (by omega)⟩
        · rw [e, List.cons_append, List.drop_succ_cons, ← g1]
        · rw [e, List.length_cons, ← g2]
/-- The bytes of ints. -/
def puts (l : List Int) : List Int := l.flatMap (fun n => enc 9 (zz n))
theorem puts_app (l m : List Int) : puts (l ++ m) = puts l ++ puts m := by unfold puts; rw [List.flatMap_append]
theorem puts_len (l : List Int) : (puts l).length ≤ 10 * l.length := by
  induction l with
  | nil => simp [puts]
  | cons x t ih =>
    have := enc_len 9 (zz x)
    have e : puts (x :: t) = enc 9 (zz x) ++ puts t := rfl
    rw [e, List.length_append, List.length_cons]; omega
theorem puts_pos (l : List Int) : l.length ≤ (puts l).length := by
  induction l with
  | nil => simp [puts]
  | cons x t ih =>
    have := enc_pos 9 (zz x)
    have e : puts (x :: t) = enc 9 (zz x) ++ puts t := rfl
    rw [e, List.length_append, List.length_cons]; omega
def rng (n : Int) : Prop := -9223372036854775808 ≤ n ∧ n ≤ 9223372036854775807
theorem zz_bnd {n : Int} (h : rng n) : zz n < bnd 9 := by rw [bnd9]; exact zz_hi n h.1 h.2
theorem b9_le : bnd 9 ≤ 128 ^ (9 + 1) := by decide
theorem puts_byte (l : List Int) (h : ∀ n ∈ l, rng n) : ∀ b ∈ puts l, 0 ≤ b ∧ b < 256 := by
  intro b hb
  obtain ⟨n, hn, hb⟩ := List.mem_flatMap.1 hb
  exact enc_byte 9 (zz n) (zz_lo n) (Int.lt_of_lt_of_le (zz_bnd (h n hn)) b9_le) b hb
theorem puts_inj : ∀ (l m : List Int), (∀ n ∈ l, rng n) → (∀ n ∈ m, rng n) → puts l = puts m → l = m := by
  intro l
  induction l with
  | nil =>
    intro m _ _ h
    have := puts_pos m
    rw [← h] at this
    simp [puts] at this
    exact this.symm
  | cons x t ih =>
    intro m hl hm h
    cases m with
    | nil => have := puts_pos (x :: t); rw [h] at this; simp [puts] at this
    | cons y s =>
      have e1 : puts (x :: t) = enc 9 (zz x) ++ puts t := rfl
      have e2 : puts (y :: s) = enc 9 (zz y) ++ puts s := rfl
      rw [e1, e2] at h
      obtain ⟨h1, h2⟩ := enc_inj 9 (zz x) (zz y) _ _ (zz_lo x) (zz_lo y) (Int.lt_of_lt_of_le (zz_bnd (hl x (List.mem_cons_self ..))) b9_le) (Int.lt_of_lt_of_le (zz_bnd (hm y (List.mem_cons_self ..))) b9_le) h
      have hxy : x = y := by rw [← unzz_zz x, ← unzz_zz y, h1]
      rw [hxy, ih s (fun n hn => hl n (List.mem_cons_of_mem _ hn)) (fun n hn => hm n (List.mem_cons_of_mem _ hn)) h2]
/-- What Next hands back. -/
def nr (b : List Int) : Int × Nat := match vnx 9 true b with | none => (0, 0) | some (u, k) => (unzz u, k)
theorem nr_put (n : Int) (h : rng n) (r : List Int) : nr (enc 9 (zz n) ++ r) = (n, (enc 9 (zz n)).length) := by
  unfold nr
  rw [vnx_enc 9 true (zz n) r (zz_lo n) (zz_bnd h) (.inl rfl)]
  show (unzz (zz n), _) = _
  rw [unzz_zz]
theorem nr_inv (b : List Int) (hb : ∀ x ∈ b, 0 ≤ x ∧ x < 256) : ((nr b).2 = 0 ∧ vnx 9 true b = none ∧ nr b = (0, 0)) ∨ (0 < (nr b).2 ∧ (nr b).2 ≤ b.length ∧ rng (nr b).1 ∧ b = enc 9 (zz (nr b).1) ++ b.drop (nr b).2 ∧ (nr b).2 = (enc 9 (zz (nr b).1)).length) := by
  unfold nr
  cases h : vnx 9 true b with
  | none => exact .inl ⟨rfl, rfl, rfl⟩
  | some r =>
    obtain ⟨u, k⟩ := r
    right
    obtain ⟨g1, g2, g3, g4, _⟩ := vnx_inv 9 true b u k hb h
    rw [bnd9] at g4
    have hz : zz (unzz u) = u := zz_unzz u g3
    have hp := enc_pos 9 u
    refine ⟨by show 0 < k; omega, ?_, unzz_lo u g3 g4, ?_, ?_⟩
    · show k ≤ b.length
      have := congrArg List.length g1
      rw [List.length_append, List.length_drop, ← g2] at this
      omega
    · show b = enc 9 (zz (unzz u)) ++ b.drop k
      rw [hz]; exact g1
    · show k = (enc 9 (zz (unzz u))).length
      rw [hz]; exact g2
/-- Bytes that are no int's in front are no ints'. -/
theorem nr_none (b : List Int) (h : vnx 9 true b = none) (hne : b ≠ []) : ∀ l, (∀ n ∈ l, rng n) → b ≠ puts l := by
  intro l hl he
  cases l with
  | nil => exact hne he
  | cons x t =>
    have e1 : puts (x :: t) = enc 9 (zz x) ++ puts t := rfl
    rw [e1] at he
    rw [he, vnx_enc 9 true (zz x) _ (zz_lo x) (zz_bnd (hl x (List.mem_cons_self ..))) (.inl rfl)] at h
    cases h
end Go.Proofs.YtelholihncbfkaaS
