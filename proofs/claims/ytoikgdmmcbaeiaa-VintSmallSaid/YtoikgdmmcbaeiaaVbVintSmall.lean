/- What the printed functions of chapter 3 compute, told by the plain arithmetic of Va: bytes put, one int read, sizes. -/
import Derived.Test.YtoikgdmmcbaeiaaVa
import Derived.Test.YtoikgdmmcbaeiaaPVintSmallx3
namespace Go.Proofs.Ytoikgdmmcbaeiaa.VVintSmall
open Go.RowKit Go.Proofs.Ytoikgdmmcbaeiaa.PVintSmall Go.Proofs.YtoikgdmmcbaeiaaW.PrintWords Go.Proofs.YtoikgdmmcbaeiaaW.PrintLast Go.Proofs.YtoikgdmmcbaeiaaW.PrintMore Go.Proofs.Ytoikgdmmcbaeiaa.VM

def E (n : Int) : List Int := enc 9 (zz n)
def Es : List Int → List Int
  | [] => []
  | n :: l => E n ++ Es l
theorem E_pos (n : Int) : 0 < (E n).length := enc_pos _ _
theorem E_len (n : Int) : (E n).length ≤ 10 := enc_len _ _
theorem Es_len (l : List Int) : (Es l).length ≤ 10 * l.length := by
  induction l with
  | nil => simp [Es]
  | cons n l ih => have := E_len n; simp [Es]; omega

def I64 (n : Int) : Prop := -9223372036854775808 ≤ n ∧ n ≤ 9223372036854775807
theorem zz_big (n : Int) (h : I64 n) : zz n < 128 ^ (9 + 1) := by have := zz_hi n h.1 h.2; omega

theorem fold_calls (n : Int) (h : I64 n) : vint_fold.f n = some (zz n) := by
  unfold vint_fold.f
  rw [fold_eq n h.1 h.2]

theorem put_one (f : Nat) : ∀ (u : Int) (x3 x7 : List Int) (x8 x9 : Int) (r : List Int), 0 ≤ u → u < 128 ^ (f + 1) → x3.length + (f + 1) ≤ 140737488355328 →
    Ev (fun k => vint_Put.l0 k (x3 ++ enc f u) x7 x8 (wrap64 (x9 + 1))) r → Ev (fun k => vint_Put.l1 k x3 u x7 x8 x9) r := by
  induction f with
  | zero =>
    intro u x3 x7 x8 x9 r h0 h1 hl he
    refine Ev.step (fun k => ?_) he
    simp only [vint_Put.l1]
    rw [if_neg (by omega), if_pos (by omega)]
    have e : u % 256 = u := by omega
    rw [e]; rfl
  | succ f ih =>
    intro u x3 x7 x8 x9 r h0 h1 hl he
    by_cases h : u ≥ 128
    · refine Ev.step (fun k => ?_) (ih (u / 128) (x3 ++ [u % 128 + 128]) x7 x8 x9 r (by omega) (pow128 f u h1) (by simp; omega) ?_)
      · simp only [vint_Put.l1]
        rw [if_pos h, if_pos (by omega), or128 _ (by omega) (by omega)]
        have e : u % 256 % 128 = u % 128 := by omega
        rw [e]
      · have e : enc (f + 1) u = (u % 128 + 128) :: enc f (u / 128) := by rw [enc, if_pos h]
        rw [e] at he
        simpa using he
    · refine Ev.step (fun k => ?_) he
      simp only [vint_Put.l1]
      rw [if_neg (by omega), if_pos (by omega)]
      have e : u % 256 = u := by omega
      rw [e, enc_small _ _ (by omega)]

theorem put_loop (d : Nat) : ∀ (i : Nat) (x3 l : List Int), i ≤ l.length → l.length - i = d → l.length < 1000 → x3.length + 10 * (l.length - i) < 100000 → (∀ n ∈ l, I64 n) →
    Ev (fun k => vint_Put.l0 k x3 l (l.length : Int) (i : Int)) (x3 ++ Es (l.drop i)) := by
  induction d with
  | zero =>
    intro i x3 l hi hd hl hx hw
    refine Ev.step (f := fun _ => some x3) (fun k => ?_) ?_
    · simp only [vint_Put.l0]; rw [if_neg (by omega)]
    · have e : l.drop i = [] := by simp; omega
      rw [e]; simp only [Es, List.append_nil]; exact Ev.now _
  | succ d ih =>
    intro i x3 l hi hd hl hx hw
    have hlt : i < l.length := by omega
    have hr : rd l (i : Int) = l[i] := by simp [rd, hlt]
    have hm : I64 l[i] := hw _ (List.getElem_mem hlt)
    have he : l.drop i = l[i] :: l.drop (i + 1) := (List.drop_eq_getElem_cons hlt)
    refine Ev.step (f := fun k => vint_Put.l1 k x3 (zz l[i]) l (l.length : Int) (i : Int)) (fun k => ?_) ?_
    · simp only [vint_Put.l0]
      rw [if_pos (by omega), if_pos (by omega), if_pos (by omega), hr, fold_calls _ hm]
      rfl
    · refine put_one 9 _ _ _ _ _ _ (zz_lo _) (zz_big _ hm) (by omega) ?_
      have e : wrap64 ((i : Int) + 1) = ((i + 1 : Nat) : Int) := by unfold wrap64; omega
      rw [e, he]
      have hE := E_len l[i]
      have := ih (i + 1) (x3 ++ E l[i]) l (by omega) (by omega) hl (by simp; omega) hw
      simpa [Es, E] using this
theorem put_calls (l : List Int) (hl : l.length < 1000) (hw : ∀ n ∈ l, I64 n) : Ev (fun k => vint_Put.f k l) (Es l) := by
  have := put_loop l.length 0 [] l (by omega) (by omega) hl (by simp; omega) hw
  simp only [List.nil_append, List.drop_zero, Int.natCast_zero] at this
  exact this
theorem put_one_calls (n : Int) (hw : I64 n) : Ev (fun k => vint_Put.f k [n]) (E n) := by
  have := put_calls [n] (by simp) (by simpa using hw)
  simpa [Es] using this
theorem size_calls (n : Int) (hw : I64 n) : Ev (fun k => vint_Size.f k n) ((E n).length : Int) :=
  Ev.bind (put_one_calls n hw) (Ev.now _)

theorem w7 (i : Nat) (h : i ≤ 9) : 0 ≤ wrap64 (7 * (i : Int)) := by
  have h2 : 7 * (i : Int) ≤ 63 := by omega
  have h3 : 0 ≤ 7 * (i : Int) := by omega
  generalize 7 * (i : Int) = x at *
  unfold wrap64
  omega
theorem shift_ok (i : Nat) (v acc : Int) (ha : 0 ≤ acc) (ha2 : acc < 128 ^ i) (h : acc + v * 128 ^ i < 18446744073709551616) (hi : i ≤ 9) (b : Int) (hb0 : 0 ≤ b) (hb1 : b < 256) (hb : b % 128 ≤ v) :
    Go.bits .or .u64 acc (shl .u64 (IntKind.u64.wrap (Go.bits .and .u8 b 127)) (wrap64 (7 * (i : Int)))) = acc + (b % 128) * 128 ^ i := by
  have hp : (128 : Int) ^ i = 2 ^ (7 * i) := by rw [Int.pow_mul]; rfl
  rw [hp] at h ha2 ⊢
  have hpp : (0 : Int) ≤ 2 ^ (7 * i) := Int.le_of_lt (Int.pow_pos (by decide))
  have hle : (b % 128) * 2 ^ (7 * i) ≤ v * 2 ^ (7 * i) := Int.mul_le_mul_of_nonneg_right hb hpp
  have hs := shl_eq (b % 128) (i : Int) (by omega) (by omega) (by omega) (by simp only [Int.toNat_natCast]; omega)
  simp only [Int.toNat_natCast] at hs
  rw [and127 b hb0 hb1, hs]
  exact or_add acc (b % 128) (7 * i) ha ha2 (by omega) (by omega)

/-- An int's bytes are read as that int, whatever stands ahead of them (as many bytes as have been read) and behind. -/
theorem next_loop (f : Nat) : ∀ (i : Nat) (acc v : Int) (pre rest : List Int), pre.length = i → i + f = 9 → 0 ≤ acc → acc < 128 ^ i → 0 ≤ v → acc + v * 128 ^ i < 18446744073709551616 → (0 < i → 0 < v) → v < 128 ^ (f + 1) →
    (pre ++ (enc f v ++ rest)).length < 100000 →
    Ev (fun k => vint_Next.l0 k acc (pre ++ (enc f v ++ rest)) ((pre ++ (enc f v ++ rest)).length : Int) (i : Int)) (unzz (acc + v * 128 ^ i), (i : Int) + ((enc f v).length : Int)) := by
  induction f with
  | zero =>
    intro i acc v pre rest hpre hif ha ha2 hv hs hpos hvf hlen
    obtain rfl : i = 9 := by omega
    have hv2 : v < 2 := by
      have e : (128 : Int) ^ 9 = 9223372036854775808 := by decide
      rw [e] at hs; omega
    have hg : rd (pre ++ (enc 0 v ++ rest)) (9 : Nat) = v := by simp [rd, enc, hpre]
    have hL : ((9 : Nat) : Int) < ((pre ++ (enc 0 v ++ rest)).length : Int) := by simp [enc]; omega
    refine Ev.step (f := fun k => vint_Next.j1 k acc (9 : Nat) v (pre ++ (enc 0 v ++ rest)) ((pre ++ (enc 0 v ++ rest)).length : Int) (9 : Nat) false) (fun k => ?_) ?_
    · simp only [vint_Next.l0]
      rw [if_pos hL, if_pos (by omega), if_pos hL, if_neg (by omega), if_pos (by omega), hg, if_neg (by omega), if_pos (by omega)]
      have : (v == 0) = false := by rw [beq_eq_false_iff_ne]; have := hpos (by omega); omega
      rw [this]
    · refine Ev.step (f := fun _ => some (unzz (acc + v * 128 ^ 9), ((9 : Nat) : Int) + ((enc 0 v).length : Int))) (fun k => ?_) (Ev.now _)
      have hb := shift_ok 9 v acc ha ha2 hs (by omega) v (by omega) (by omega) (by omega)
      have hm : v % 128 = v := by omega
      rw [hm] at hb
      have h0 : 0 ≤ v * 128 ^ 9 := Int.mul_nonneg hv (Int.le_of_lt (Int.pow_pos (by decide)))
      simp only [vint_Next.j1]
      rw [if_neg (by decide), if_pos (w7 9 (by decide)), if_pos (by omega), hb, unfold_eq _ (by omega) hs]
      have ew : wrap64 (((9 : Nat) : Int) + 1) = ((9 : Nat) : Int) + ((enc 0 v).length : Int) := by unfold wrap64; simp [enc]
      rw [ew]
  | succ f ih =>
    intro i acc v pre rest hpre hif ha ha2 hv hs hpos hvf hlen
    have hi9 : i ≤ 8 := by omega
    have hi10 : i ≤ 9 := by omega
    have hpp : (1 : Int) ≤ 128 ^ i := Int.pow_pos (by decide)
    have hnn : 0 ≤ v * 128 ^ i := Int.mul_nonneg hv (by omega)
    by_cases h : v ≥ 128
    · have e : enc (f + 1) v = (v % 128 + 128) :: enc f (v / 128) := by rw [enc, if_pos h]
      have hg : rd (pre ++ (enc (f + 1) v ++ rest)) (i : Int) = v % 128 + 128 := by simp [rd, e, hpre]
      have hL : (i : Int) < ((pre ++ (enc (f + 1) v ++ rest)).length : Int) := by simp [e]; omega
      have hnx : acc + (v % 128) * 128 ^ i + (v / 128) * 128 ^ (i + 1) = acc + v * 128 ^ i := by
        have e1 : (128 : Int) ^ (i + 1) = 128 ^ i * 128 := Int.pow_succ ..
        have e2 : v / 128 * (128 ^ i * 128) = (v / 128 * 128) * 128 ^ i := by rw [Int.mul_comm (128 ^ i) 128, Int.mul_assoc]
        rw [e1, e2, Int.add_assoc, ← Int.add_mul]
        have : v % 128 + v / 128 * 128 = v := by omega
        rw [this]
      have hle : (v % 128) * 128 ^ i ≤ 127 * 128 ^ i := Int.mul_le_mul_of_nonneg_right (by omega) (by omega)
      have hge : 0 ≤ (v % 128) * 128 ^ i := Int.mul_nonneg (by omega) (by omega)
      have e1 : (128 : Int) ^ (i + 1) = 128 ^ i * 128 := Int.pow_succ ..
      have key := ih (i + 1) (acc + (v % 128) * 128 ^ i) (v / 128) (pre ++ [v % 128 + 128]) rest (by simp [hpre]) (by omega) (by omega) (by omega) (by omega) (by rw [hnx]; exact hs)
        (fun _ => by omega) (pow128 f v hvf) (by rw [e] at hlen; simpa using hlen)
      have eL : pre ++ [v % 128 + 128] ++ (enc f (v / 128) ++ rest) = pre ++ (enc (f + 1) v ++ rest) := by rw [e]; simp
      rw [hnx, eL] at key
      have el : ((i + 1 : Nat) : Int) + ((enc f (v / 128)).length : Int) = (i : Int) + ((enc (f + 1) v).length : Int) := by rw [e]; simp; omega
      rw [el] at key
      refine Ev.step (f := fun k => vint_Next.j1 k acc (i : Int) (v % 128 + 128) (pre ++ (enc (f + 1) v ++ rest)) ((pre ++ (enc (f + 1) v ++ rest)).length : Int) (i : Int) false) (fun k => ?_) ?_
      · simp only [vint_Next.l0]
        rw [if_pos hL, if_pos (by omega), if_pos hL, if_neg (by omega), if_neg (by omega), hg]
        by_cases hi0 : (i : Int) > 0
        · rw [if_pos hi0]
          have : (v % 128 + 128 == 0) = false := by rw [beq_eq_false_iff_ne]; omega
          rw [this]
        · rw [if_neg hi0]
      · refine Ev.step (fun k => ?_) key
        have hb := shift_ok i v acc ha ha2 hs (by omega) (v % 128 + 128) (by omega) (by omega) (by omega)
        have hm : (v % 128 + 128) % 128 = v % 128 := by omega
        rw [hm] at hb
        have ew : wrap64 ((i : Int) + 1) = ((i + 1 : Nat) : Int) := by unfold wrap64; omega
        simp only [vint_Next.j1]
        rw [if_neg (by decide), if_pos (w7 i hi10), if_neg (by omega), hb, ew]
    · have e : enc (f + 1) v = [v] := enc_small _ _ (by omega)
      have hg : rd (pre ++ (enc (f + 1) v ++ rest)) (i : Int) = v := by simp [rd, e, hpre]
      have hL : (i : Int) < ((pre ++ (enc (f + 1) v ++ rest)).length : Int) := by simp [e]; omega
      refine Ev.step (f := fun k => vint_Next.j1 k acc (i : Int) v (pre ++ (enc (f + 1) v ++ rest)) ((pre ++ (enc (f + 1) v ++ rest)).length : Int) (i : Int) false) (fun k => ?_) ?_
      · simp only [vint_Next.l0]
        rw [if_pos hL, if_pos (by omega), if_pos hL, if_neg (by omega), if_neg (by omega), hg]
        by_cases hi0 : (i : Int) > 0
        · rw [if_pos hi0]
          have : (v == 0) = false := by rw [beq_eq_false_iff_ne]; have := hpos (by omega); omega
          rw [this]
        · rw [if_neg hi0]
      · refine Ev.step (f := fun _ => some (unzz (acc + v * 128 ^ i), (i : Int) + ((enc (f + 1) v).length : Int))) (fun k => ?_) (Ev.now _)
        have hb := shift_ok i v acc ha ha2 hs (by omega) v (by omega) (by omega) (by omega)
        have hm : v % 128 = v := by omega
        rw [hm] at hb
        have ew : wrap64 ((i : Int) + 1) = (i : Int) + ((enc (f + 1) v).length : Int) := by rw [e]; unfold wrap64; simp; omega
        simp only [vint_Next.j1]
        rw [if_neg (by decide), if_pos (w7 i hi10), if_pos (by omega), hb, unfold_eq _ (by omega) hs, ew]
theorem next_calls (n : Int) (rest : List Int) (hw : I64 n) (hl : rest.length < 1000) : Ev (fun k => vint_Next.f k (E n ++ rest)) (n, ((E n).length : Int)) := by
  have hE := E_len n
  have := next_loop 9 0 0 (zz n) [] rest rfl (by omega) (by omega) (by simp) (zz_lo n) (by have := zz_hi n hw.1 hw.2; simpa using this) (by omega) (zz_big n hw) (by simp [E] at hE ⊢; omega)
  simp only [List.nil_append, Int.zero_add, Int.pow_zero, Int.mul_one, unzz_zz, Int.natCast_zero] at this
  exact this

/-- Bytes that all go on, and then none or a zero: there is no int. -/
theorem next_none (l : List Int) : ∀ (i : Nat) (acc : Int) (pre t : List Int), pre.length = i → i ≤ 10 → (∀ b ∈ l, 128 ≤ b ∧ b < 256) → (t = [] ∨ t = [0] ∧ 0 < i + l.length) → (pre ++ (l ++ t)).length < 100000 →
    Ev (fun k => vint_Next.l0 k acc (pre ++ (l ++ t)) ((pre ++ (l ++ t)).length : Int) (i : Int)) (0, 0) := by
  induction l with
  | nil =>
    intro i acc pre t hpre hi hb ht hlen
    rcases ht with rfl | ⟨rfl, h0⟩
    · refine Ev.step (f := fun _ => some (0, 0)) (fun k => ?_) (Ev.now _)
      simp only [vint_Next.l0]; rw [if_neg (by simp; omega)]
    · simp at h0
      have hg : rd (pre ++ ([] ++ [0])) (i : Int) = 0 := by simp [rd, hpre]
      have hL : (i : Int) < ((pre ++ ([] ++ [0])).length : Int) := by simp; omega
      refine Ev.step (f := fun k => vint_Next.j1 k acc (i : Int) 0 (pre ++ ([] ++ [0])) ((pre ++ ([] ++ [0])).length : Int) (i : Int) true) (fun k => ?_) (Ev.step (f := fun _ => some (0, 0)) (fun k => ?_) (Ev.now _))
      · simp only [vint_Next.l0]
        rw [if_pos hL, if_pos (by omega), if_pos hL, hg]
        by_cases h10 : (i : Int) = 10
        · rw [if_pos h10]
        · rw [if_neg h10]
          by_cases h9 : (i : Int) = 9
          · rw [if_pos h9, if_neg (by decide), if_pos (by omega)]; rfl
          · rw [if_neg h9, if_pos (by omega)]; rfl
      · simp only [vint_Next.j1]; exact if_pos trivial
  | cons x l ih =>
    intro i acc pre t hpre hi hb ht hlen
    have hx := hb x (by simp)
    have hg : rd (pre ++ (x :: l ++ t)) (i : Int) = x := by simp [rd, hpre]
    have hL : (i : Int) < ((pre ++ (x :: l ++ t)).length : Int) := by simp; omega
    by_cases h9 : i ≤ 8
    · have key := ih (i + 1) (Go.bits .or .u64 acc (shl .u64 (IntKind.u64.wrap (Go.bits .and .u8 x 127)) (wrap64 (7 * (i : Int))))) (pre ++ [x]) t (by simp [hpre]) (by omega) (fun b h => hb b (by simp [h]))
        (by rcases ht with h | h; · exact .inl h
            · exact .inr ⟨h.1, by omega⟩) (by simpa using hlen)
      have eL : pre ++ [x] ++ (l ++ t) = pre ++ (x :: l ++ t) := by simp
      rw [eL] at key
      refine Ev.step (f := fun k => vint_Next.j1 k acc (i : Int) x (pre ++ (x :: l ++ t)) ((pre ++ (x :: l ++ t)).length : Int) (i : Int) false) (fun k => ?_) (Ev.step (fun k => ?_) key)
      · simp only [vint_Next.l0]
        rw [if_pos hL, if_pos (by omega), if_pos hL, if_neg (by omega), if_neg (by omega), hg]
        by_cases hi0 : (i : Int) > 0
        · rw [if_pos hi0]
          have : (x == 0) = false := by rw [beq_eq_false_iff_ne]; omega
          rw [this]
        · rw [if_neg hi0]
      · have ew : wrap64 ((i : Int) + 1) = ((i + 1 : Nat) : Int) := by unfold wrap64; omega
        simp only [vint_Next.j1]
        rw [if_neg (by decide), if_pos (w7 i (by omega)), if_neg (by omega), ew]
    · refine Ev.step (f := fun k => vint_Next.j1 k acc (i : Int) x (pre ++ (x :: l ++ t)) ((pre ++ (x :: l ++ t)).length : Int) (i : Int) true) (fun k => ?_) (Ev.step (f := fun _ => some (0, 0)) (fun k => ?_) (Ev.now _))
      · simp only [vint_Next.l0]
        rw [if_pos hL, if_pos (by omega), if_pos hL, hg]
        by_cases h10 : (i : Int) = 10
        · rw [if_pos h10]
        · rw [if_neg h10, if_pos (by omega), if_pos (by omega)]
      · simp only [vint_Next.j1]; exact if_pos trivial
theorem next_none_calls (l t : List Int) (hb : ∀ b ∈ l, 128 ≤ b ∧ b < 256) (ht : t = [] ∨ t = [0] ∧ 0 < l.length) (hl : l.length < 1000) : Ev (fun k => vint_Next.f k (l ++ t)) (0, 0) := by
  have := next_none l 0 0 [] t rfl (by omega) hb (by rcases ht with h | h; · exact .inl h
                                                     · exact .inr ⟨h.1, by omega⟩) (by rcases ht with rfl | ⟨rfl, _⟩ <;> simp <;> omega)
  exact this

theorem runs_calls : Ev (fun k => cordonlaw3_VintRuns.f k) true := Ev.of (fun k => cordonlaw3_VintRuns.mono k) (k := 60) (by decide +kernel)

theorem same_loop (d : Nat) : ∀ (i : Nat) (l m : List Int), l.length = m.length → i ≤ l.length → l.length - i = d → l.length < 100000 →
    Ev (fun k => cordonbook_Same_byte.l0 k l m (i : Int)) (decide (l.drop i = m.drop i)) := by
  induction d with
  | zero =>
    intro i l m hlm hi hd hl
    refine Ev.step (f := fun _ => some (decide (l.drop i = m.drop i))) (fun k => ?_) (Ev.now _)
    simp only [cordonbook_Same_byte.l0]
    have e : l.drop i = [] := by simp; omega
    have e2 : m.drop i = [] := by simp; omega
    rw [if_neg (by omega), e, e2]; rfl
  | succ d ih =>
    intro i l m hlm hi hd hl
    have h1 : i < l.length := by omega
    have h2 : i < m.length := by omega
    have r1 : rd l (i : Int) = l[i] := by simp [rd, h1]
    have r2 : rd m (i : Int) = m[i] := by simp [rd, h2]
    have e1 := List.drop_eq_getElem_cons h1
    have e2 := List.drop_eq_getElem_cons h2
    have ew : wrap64 ((i : Int) + 1) = ((i + 1 : Nat) : Int) := by unfold wrap64; omega
    by_cases h : l[i] = m[i]
    · have key := ih (i + 1) l m hlm (by omega) (by omega) hl
      refine Ev.step (fun k => ?_) (r := decide (l.drop i = m.drop i)) (f := fun k => cordonbook_Same_byte.l0 k l m ((i + 1 : Nat) : Int)) ?_
      · simp only [cordonbook_Same_byte.l0]
        rw [if_pos (by omega), if_pos (by omega), if_pos (by omega), r1, r2, if_pos h, ew]
      · have e : decide (l.drop i = m.drop i) = decide (l.drop (i + 1) = m.drop (i + 1)) := by
          rw [e1, e2, h]
          exact decide_eq_decide.2 ⟨fun h => (List.cons.inj h).2, fun h => by rw [h]⟩
        rw [e]
        exact key
    · refine Ev.step (f := fun _ => some false) (fun k => ?_) ?_
      · simp only [cordonbook_Same_byte.l0]
        rw [if_pos (by omega), if_pos (by omega), if_pos (by omega), r1, r2, if_neg h]
      · have e : decide (l.drop i = m.drop i) = false := by
          rw [e1, e2]
          exact decide_eq_false (fun hh => h (List.cons.inj hh).1)
        rw [e]; exact Ev.now _
theorem same_calls (l m : List Int) (hl : l.length < 100000) : Ev (fun k => cordonbook_Same_byte.f k l m) (decide (l = m)) := by
  by_cases h : (l.length : Int) = (m.length : Int)
  · have key := same_loop l.length 0 l m (by omega) (by omega) (by omega) hl
    refine Ev.congr (fun k => ?_) (f := fun k => cordonbook_Same_byte.l0 k l m 0) (by simpa using key)
    unfold cordonbook_Same_byte.f
    rw [if_pos h]
  · have e : decide (l = m) = false := by
      simp only [decide_eq_false_iff_not]; intro e; rw [e] at h; exact h rfl
    rw [e]
    refine Ev.congr (fun k => ?_) (Ev.now false)
    unfold cordonbook_Same_byte.f
    rw [if_neg h]

theorem within_calls (a lo hi : Int) (h : lo ≤ hi) (hlo : -4611686018427387904 ≤ lo) (hhi : hi ≤ 4611686018427387904) (hd : hi - lo ≤ 4611686018427387904) : ∃ r, cordonbook_Within.f a lo hi = some r ∧ lo ≤ r ∧ r ≤ hi := by
  have e1 : wrap64 ((wrap64 (hi - lo)) + 1) = hi - lo + 1 := by unfold wrap64; omega
  have h1 := Int.tmod_lt_of_pos a (b := hi - lo + 1) (by omega)
  have h2 := Int.lt_tmod_of_pos a (b := hi - lo + 1) (by omega)
  unfold cordonbook_Within.f
  rw [e1, if_neg (by omega)]
  generalize a.tmod (hi - lo + 1) = q at *
  by_cases h0 : q < 0
  · rw [if_pos h0]
    exact ⟨_, rfl, by unfold wrap64; omega, by unfold wrap64; omega⟩
  · rw [if_neg h0]
    exact ⟨_, rfl, by unfold wrap64; omega, by unfold wrap64; omega⟩

end Go.Proofs.Ytoikgdmmcbaeiaa.VVintSmall
