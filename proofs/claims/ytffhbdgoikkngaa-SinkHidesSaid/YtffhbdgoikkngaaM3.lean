import Derived.Test.YtffhbdgoikkngaaM2
namespace Go.Proofs.YtffhbdgoikkngaaS
open Go.RowKit
/-! The numbers of a set, rising; how many they are. -/
def ids (x : BitVec 64) : List Nat := (List.range 64).filter (x.getLsbD ·)
theorem ids_zero : ids 0 = [] := by
  unfold ids
  rw [List.filter_eq_nil_iff]
  intro i _
  show ¬ (0#64).getLsbD i = true
  simp
theorem ids_cons (x : BitVec 64) (i : Nat) (hi : i < 64) (hb : x.getLsbD i = true) (hl : ∀ j, j < i → x.getLsbD j = false) : ids x = i :: ids (x &&& (x - 1#64)) := by
  have hp := and_pred x i hi hb hl
  unfold ids
  have e : List.range 64 = List.range i ++ i :: (List.range' (i + 1) (63 - i)) := by
    rw [List.range_eq_range', List.range_eq_range']
    have h1 : List.range' 0 64 = List.range' 0 i ++ List.range' i (64 - i) := by
      have := List.range'_append (s := 0) (m := i) (n := 64 - i) (step := 1)
      rw [Nat.zero_add, Nat.one_mul] at this
      rw [this, show i + (64 - i) = 64 by omega]
    rw [h1, show 64 - i = (63 - i) + 1 by omega, List.range'_succ]
  rw [e, List.filter_append, List.filter_append, List.filter_cons, List.filter_cons, hp i]
  have h1 : (List.range i).filter (x.getLsbD ·) = [] := by
    rw [List.filter_eq_nil_iff]; intro j hj
    rw [hl j (List.mem_range.1 hj)]; simp
  have h2 : (List.range i).filter ((x &&& (x - 1#64)).getLsbD ·) = [] := by
    rw [List.filter_eq_nil_iff]; intro j hj
    rw [hp j, hl j (List.mem_range.1 hj)]; simp
  have h3 : (List.range' (i + 1) (63 - i)).filter ((x &&& (x - 1#64)).getLsbD ·) = (List.range' (i + 1) (63 - i)).filter (x.getLsbD ·) := by
    refine List.filter_congr fun j hj => ?_
    have := (List.mem_range'_1.1 hj).1
    rw [hp j, decide_eq_false (by omega : ¬ j = i)]; simp
  rw [h1, h2, h3]
  simp [hb]
/-! How many there are, as the machine reckons it. -/
def rep : Nat → Nat → Nat
  | 0, _ => 0
  | n + 1, d => 256 * rep n d + d
theorem land256 (h c m d : Nat) (hc : c < 256) (hd : d < 256) : (256 * h + c) &&& (256 * m + d) = 256 * (h &&& m) + (c &&& d) := by
  refine Nat.eq_of_testBit_eq fun j => ?_
  have hcd : (c &&& d) < 2 ^ 8 := Nat.lt_of_le_of_lt Nat.and_le_left hc
  rw [Nat.testBit_and, show (256 : Nat) = 2 ^ 8 from rfl, Nat.testBit_two_pow_mul_add _ (show c < 2 ^ 8 from hc), Nat.testBit_two_pow_mul_add _ (show d < 2 ^ 8 from hd), Nat.testBit_two_pow_mul_add _ hcd]
  split
  · rw [Nat.testBit_and]
  · rw [Nat.testBit_and]
def s1 (n x : Nat) : Nat := (x / 2 &&& rep n 85) + (x &&& rep n 85)
def s2 (n x : Nat) : Nat := (x / 4 &&& rep n 51) + (x &&& rep n 51)
def s3 (n x : Nat) : Nat := (x / 16 + x) &&& rep n 15
def p1 (c : Nat) : Nat := (c / 2 &&& 85) + (c &&& 85)
def p2 (c : Nat) : Nat := (c / 4 &&& 51) + (c &&& 51)
def p3 (c : Nat) : Nat := (c / 16 + c) &&& 15
theorem b1 : ∀ c : Fin 256, ∀ b : Fin 2, ((128 * b.val + c.val / 2) &&& 85) = (c.val / 2 &&& 85) := by decide +kernel
theorem b2 : ∀ c : Fin 256, ∀ b : Fin 4, ((64 * b.val + c.val / 4) &&& 51) = (c.val / 4 &&& 51) := by decide +kernel
theorem b3 : ∀ c : Fin 256, ∀ b : Fin 5, ((16 * b.val + (p2 (p1 c.val)) / 16 + (p2 (p1 c.val))) &&& 15) = p3 (p2 (p1 c.val)) := by decide +kernel
theorem bd : ∀ c : Fin 256, p1 c.val < 256 ∧ p2 (p1 c.val) < 128 ∧ p2 (p1 c.val) % 16 ≤ 4 ∧ p2 (p1 c.val) / 16 ≤ 4 ∧ p3 (p2 (p1 c.val)) = ((List.range 8).filter (c.val.testBit ·)).length := by decide +kernel
theorem s1_step (n h c : Nat) (hc : c < 256) : s1 (n + 1) (256 * h + c) = 256 * s1 n h + p1 c := by
  have k := b1 ⟨c, hc⟩ ⟨h % 2, by omega⟩
  simp only at k
  unfold s1 p1
  rw [show rep (n + 1) 85 = 256 * rep n 85 + 85 from rfl]
  have e : (256 * h + c) / 2 = 256 * (h / 2) + (128 * (h % 2) + c / 2) := by omega
  rw [e, land256 _ _ _ _ (by omega) (by decide), land256 _ _ _ _ hc (by decide), k]
  omega
theorem s2_step (n h c : Nat) (hc : c < 256) : s2 (n + 1) (256 * h + c) = 256 * s2 n h + p2 c := by
  have k := b2 ⟨c, hc⟩ ⟨h % 4, by omega⟩
  simp only at k
  unfold s2 p2
  rw [show rep (n + 1) 51 = 256 * rep n 51 + 51 from rfl]
  have e : (256 * h + c) / 4 = 256 * (h / 4) + (64 * (h % 4) + c / 4) := by omega
  rw [e, land256 _ _ _ _ (by omega) (by decide), land256 _ _ _ _ hc (by decide), k]
  omega
theorem s12_low (n x : Nat) : s2 n (s1 n x) % 16 ≤ 4 := by
  cases n with
  | zero => simp [s1, s2, rep]
  | succ n =>
    obtain ⟨h, c, hc, rfl⟩ : ∃ h c, c < 256 ∧ x = 256 * h + c := ⟨x / 256, x % 256, by omega, by omega⟩
    have k := bd ⟨c, hc⟩
    simp only at k
    rw [s1_step n h c hc, s2_step _ _ _ k.1]
    have := k.2.2.1
    omega
def T8 (n x : Nat) : Nat := s3 n (s2 n (s1 n x))
theorem T8_step (n h c : Nat) (hc : c < 256) : T8 (n + 1) (256 * h + c) = 256 * T8 n h + ((List.range 8).filter (c.testBit ·)).length := by
  unfold T8
  have k := bd ⟨c, hc⟩
  simp only at k
  rw [s1_step n h c hc, s2_step _ _ _ k.1, ← k.2.2.2.2]
  have hl := s12_low n h
  generalize s2 n (s1 n h) = y at *
  have k3 := b3 ⟨c, hc⟩ ⟨y % 16, by omega⟩
  simp only at k3
  unfold s3
  rw [show rep (n + 1) 15 = 256 * rep n 15 + 15 from rfl]
  have e : (256 * y + p2 (p1 c)) / 16 + (256 * y + p2 (p1 c)) = 256 * (y / 16 + y) + (16 * (y % 16) + p2 (p1 c) / 16 + p2 (p1 c)) := by omega
  rw [e, land256 _ _ _ _ (by omega) (by decide), k3]
def cnt (n x : Nat) : Nat := ((List.range n).filter (x.testBit ·)).length
theorem cnt_step (n h c : Nat) (hc : c < 256) : cnt (8 + n) (256 * h + c) = cnt 8 c + cnt n h := by
  unfold cnt
  rw [List.range_add, List.filter_append, List.length_append, List.filter_map, List.length_map]
  congr 1
  · congr 1
    refine List.filter_congr fun j hj => ?_
    have := List.mem_range.1 hj
    rw [show (256 : Nat) = 2 ^ 8 from rfl, Nat.testBit_two_pow_mul_add _ (show c < 2 ^ 8 from hc), if_pos this]
  · congr 1
    refine List.filter_congr fun j _ => ?_
    show (256 * h + c).testBit (8 + j) = h.testBit j
    rw [show (256 : Nat) = 2 ^ 8 from rfl, Nat.testBit_two_pow_mul_add _ (show c < 2 ^ 8 from hc), if_neg (by omega), Nat.add_sub_cancel_left]
theorem cnt_le (c : Nat) (n : Nat) : cnt n c ≤ n := by
  unfold cnt
  have := List.length_filter_le (c.testBit ·) (List.range n)
  simpa using this
def fold3 (t : Nat) : Nat :=
  let y1 := (t + t / 256) % 18446744073709551616
  let y2 := (y1 + y1 / 65536) % 18446744073709551616
  let y3 := (y2 + y2 / 4294967296) % 18446744073709551616
  y3 % 128
theorem f1 (A3 q0 q1 q2 : Nat) (h0 : q0 ≤ 8) (h1 : q1 ≤ 8) (h2 : q2 ≤ 8) : (256 * (256 * (256 * A3 + q2) + q1) + q0 + (256 * (256 * A3 + q2) + q1)) / 65536 = (256 * A3 + q2) + A3 := by omega
theorem f2 (a b c d l : Nat) (h : l < 4294967296) : (4294967296 * (a + b + c + d) + l) / 4294967296 = a + b + c + d := by omega
theorem fold3_sum (q0 q1 q2 q3 q4 q5 q6 q7 A1 A2 A3 A4 A5 A6 : Nat) (h0 : q0 ≤ 8) (h1 : q1 ≤ 8) (h2 : q2 ≤ 8) (h3 : q3 ≤ 8) (h4 : q4 ≤ 8) (h5 : q5 ≤ 8) (h6 : q6 ≤ 8) (h7 : q7 ≤ 8)
    (e6 : A6 = 256 * q7 + q6) (e5 : A5 = 256 * A6 + q5) (e4 : A4 = 256 * A5 + q4) (e3 : A3 = 256 * A4 + q3) (e2 : A2 = 256 * A3 + q2) (e1 : A1 = 256 * A2 + q1) : fold3 (256 * A1 + q0) = q0 + q1 + q2 + q3 + q4 + q5 + q6 + q7 := by
  have b6 : A6 ≤ 2056 := by omega
  have b5 : A5 ≤ 526344 := by omega
  have b4 : A4 ≤ 134744072 := by omega
  have b3 : A3 ≤ 34494482440 := by omega
  have b2 : A2 ≤ 8830587504648 := by omega
  have b1 : A1 ≤ 2260630401189896 := by omega
  have d1 : (256 * A1 + q0) / 256 = A1 := by omega
  have m1 : (256 * A1 + q0 + A1) % 18446744073709551616 = 256 * A1 + q0 + A1 := Nat.mod_eq_of_lt (by omega)
  have d2 : (256 * A1 + q0 + A1) / 65536 = A2 + A3 := by
    rw [e1, e2]; exact f1 A3 q0 q1 q2 h0 h1 h2
  have m2 : (256 * A1 + q0 + A1 + (A2 + A3)) % 18446744073709551616 = 256 * A1 + q0 + A1 + (A2 + A3) := Nat.mod_eq_of_lt (by omega)
  have d3 : (256 * A1 + q0 + A1 + (A2 + A3)) / 4294967296 = A4 + A5 + A6 + q7 := by
    have low : 16777216 * (q3 + q4 + q5 + q6) + 65536 * (q2 + q3 + q4 + q5) + 256 * (q1 + q2 + q3 + q4) + (q0 + q1 + q2 + q3) < 4294967296 := by
      have g3 : q3 + q4 + q5 + q6 ≤ 32 := by omega
      have g2 : q2 + q3 + q4 + q5 ≤ 32 := by omega
      have g1 : q1 + q2 + q3 + q4 ≤ 32 := by omega
      have g0 : q0 + q1 + q2 + q3 ≤ 32 := by omega
      generalize q3 + q4 + q5 + q6 = x3 at *
      generalize q2 + q3 + q4 + q5 = x2 at *
      generalize q1 + q2 + q3 + q4 = x1 at *
      generalize q0 + q1 + q2 + q3 = x0 at *
      clear e1 e2 e3 e4 e5 e6 b1 b2 b3 b4 b5 b6 d1 m1 d2 m2
      omega
    have e : 256 * A1 + q0 + A1 + (A2 + A3) = 4294967296 * (A4 + A5 + A6 + q7) + (16777216 * (q3 + q4 + q5 + q6) + 65536 * (q2 + q3 + q4 + q5) + 256 * (q1 + q2 + q3 + q4) + (q0 + q1 + q2 + q3)) := by
      clear low h0 h1 h2 h3 h4 h5 h6 h7 b1 b2 b3 b4 b5 b6 d1 m1 d2 m2
      subst e1; subst e2; subst e3; subst e4; subst e5; subst e6
      omega
    rw [e]; exact f2 _ _ _ _ _ low
  have m3 : (256 * A1 + q0 + A1 + (A2 + A3) + (A4 + A5 + A6 + q7)) % 18446744073709551616 = 256 * A1 + q0 + A1 + (A2 + A3) + (A4 + A5 + A6 + q7) := Nat.mod_eq_of_lt (by omega)
  have hS : q0 + q1 + q2 + q3 + q4 + q5 + q6 + q7 < 128 := by omega
  have e : 256 * A1 + q0 + A1 + (A2 + A3) + (A4 + A5 + A6 + q7) = 128 * (2 * (A1 + A2 + A3 + A4 + A5 + A6 + q7)) + (q0 + q1 + q2 + q3 + q4 + q5 + q6 + q7) := by omega
  unfold fold3
  simp only [d1, m1, d2, m2, d3, m3]
  rw [e, Nat.mul_add_mod, Nat.mod_eq_of_lt hS]
theorem T8_cnt (x : Nat) (hx : x < 18446744073709551616) : fold3 (T8 8 x) = cnt 64 x := by
  obtain ⟨h0, c0, l0, rfl⟩ : ∃ h c, c < 256 ∧ x = 256 * h + c := ⟨x / 256, x % 256, by omega, by omega⟩
  obtain ⟨h1, c1, l1, rfl⟩ : ∃ h c, c < 256 ∧ h0 = 256 * h + c := ⟨h0 / 256, h0 % 256, by omega, by omega⟩
  obtain ⟨h2, c2, l2, rfl⟩ : ∃ h c, c < 256 ∧ h1 = 256 * h + c := ⟨h1 / 256, h1 % 256, by omega, by omega⟩
  obtain ⟨h3, c3, l3, rfl⟩ : ∃ h c, c < 256 ∧ h2 = 256 * h + c := ⟨h2 / 256, h2 % 256, by omega, by omega⟩
  obtain ⟨h4, c4, l4, rfl⟩ : ∃ h c, c < 256 ∧ h3 = 256 * h + c := ⟨h3 / 256, h3 % 256, by omega, by omega⟩
  obtain ⟨h5, c5, l5, rfl⟩ : ∃ h c, c < 256 ∧ h4 = 256 * h + c := ⟨h4 / 256, h4 % 256, by omega, by omega⟩
  obtain ⟨h6, c6, l6, rfl⟩ : ∃ h c, c < 256 ∧ h5 = 256 * h + c := ⟨h5 / 256, h5 % 256, by omega, by omega⟩
  obtain ⟨h7, c7, l7, rfl⟩ : ∃ h c, c < 256 ∧ h6 = 256 * h + c := ⟨h6 / 256, h6 % 256, by omega, by omega⟩
  have hz : h7 = 0 := by omega
  subst hz
  have z : T8 0 0 = 0 := rfl
  rw [T8_step _ _ _ l0, T8_step _ _ _ l1, T8_step _ _ _ l2, T8_step _ _ _ l3, T8_step _ _ _ l4, T8_step _ _ _ l5, T8_step _ _ _ l6, T8_step _ _ _ l7, z]
  have c64 : ∀ x, cnt 64 x = cnt (8 + (8 + (8 + (8 + (8 + (8 + (8 + (8 + 0)))))))) x := fun _ => rfl
  rw [c64, cnt_step _ _ _ l0, cnt_step _ _ _ l1, cnt_step _ _ _ l2, cnt_step _ _ _ l3, cnt_step _ _ _ l4, cnt_step _ _ _ l5, cnt_step _ _ _ l6, cnt_step _ _ _ l7]
  have z2 : cnt 0 0 = 0 := rfl
  rw [z2]
  have := fold3_sum (cnt 8 c0) (cnt 8 c1) (cnt 8 c2) (cnt 8 c3) (cnt 8 c4) (cnt 8 c5) (cnt 8 c6) (cnt 8 c7) _ _ _ _ _ _ (cnt_le _ _) (cnt_le _ _) (cnt_le _ _) (cnt_le _ _) (cnt_le _ _) (cnt_le _ _) (cnt_le _ _) (cnt_le _ _) rfl rfl rfl rfl rfl rfl
  show fold3 (256 * (256 * (256 * (256 * (256 * (256 * (256 * (256 * 0 + cnt 8 c7) + cnt 8 c6) + cnt 8 c5) + cnt 8 c4) + cnt 8 c3) + cnt 8 c2) + cnt 8 c1) + cnt 8 c0) = _
  rw [Nat.mul_zero, Nat.zero_add, this]
  omega
theorem cnt_ids (x : BitVec 64) : cnt 64 x.toNat = (ids x).length := rfl
end Go.Proofs.YtffhbdgoikkngaaS
