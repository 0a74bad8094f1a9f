/- Ints near nought have one byte, each another one, and a byte alone is one int's just if its highest bit isn't set: for every int and every byte. No condition. -/
import Derived.Test.YtoikgdmmcbaeiaaVbVintSmall
namespace Go.Proofs.Ytoikgdmmcbaeiaa.Pure
open Go.RowKit Go.Proofs.Ytoikgdmmcbaeiaa.PVintSmall Go.Proofs.YtoikgdmmcbaeiaaW.PrintWords Go.Proofs.YtoikgdmmcbaeiaaW.PrintLast Go.Proofs.YtoikgdmmcbaeiaaW.PrintMore Go.Proofs.Ytoikgdmmcbaeiaa.VM Go.Proofs.Ytoikgdmmcbaeiaa.VVintSmall

theorem one : ((0 + 1 : Nat) : Int) = 1 := rfl
theorem get_yes (b : Int) (h0 : 0 ≤ b) (h1 : b < 128) : Ev (fun k => vint_Get.f k [b]) ([unzz b], true) := by
  have hb := unzz_lo b h0 (by omega)
  have hE : E (unzz b) = [b] := by unfold E; rw [zz_unzz b h0]; exact enc_small _ _ h1
  have n := next_calls (unzz b) [] ⟨hb.1, hb.2⟩ (by decide)
  rw [hE] at n
  refine Ev.step (f := fun k => (vint_Next.f k [b]).bind fun bt102 => (if bt102.2 = 0 then (some (([] : List Int), false)) else (if ([] : List Int).length < 17592186044416 then (if 0 ≤ bt102.2 then (if bt102.2 ≤ (([b] : List Int).length : Int) then (vint_Get.l0 k (([b] : List Int).drop (bt102.2 : Int).toNat) ([] ++ [bt102.1])) else (none)) else (none)) else (none)))) (fun k => ?_) (Ev.bind n ?_)
  · simp only [vint_Get.f, vint_Get.l0]
    rw [if_pos (by simp)]
  · refine Ev.step (f := fun _ => some ([unzz b], true)) (fun k => ?_) (Ev.now _)
    simp [vint_Get.l0]
theorem get_no (b : Int) (h0 : 128 ≤ b) (h1 : b < 256) : Ev (fun k => vint_Get.f k [b]) ([], false) := by
  have n := next_none_calls [b] [] (by simp; omega) (.inl rfl) (by simp)
  refine Ev.step (f := fun k => (vint_Next.f k ([b] ++ [])).bind fun bt102 => (if bt102.2 = 0 then (some (([] : List Int), false)) else (if ([] : List Int).length < 17592186044416 then (if 0 ≤ bt102.2 then (if bt102.2 ≤ (([b] : List Int).length : Int) then (vint_Get.l0 k (([b] : List Int).drop (bt102.2 : Int).toNat) ([] ++ [bt102.1])) else (none)) else (none)) else (none)))) (fun k => ?_) (Ev.bind n ?_)
  · simp only [vint_Get.f, vint_Get.l0]
    rw [if_pos (by simp)]
    rfl
  · exact Ev.now _

theorem VintSmall : cordonlaw3_VintSmall.Pure := by
  intro a0 a1 _ w1
  obtain ⟨b0, b1⟩ := wf_u8 w1
  obtain ⟨x, hx, hx0, hx1⟩ := within_calls a0 (-64) 63 (by decide) (by decide) (by decide) (by decide)
  have hz : 0 ≤ zz x ∧ zz x < 128 := by unfold zz; split <;> omega
  have hE : E x = [zz x] := enc_small _ _ hz.2
  have s0 := put_one_calls x ⟨by omega, by omega⟩
  have s1 := size_calls x ⟨by omega, by omega⟩
  rw [hE] at s0 s1
  have s2 := size_calls 64 ⟨by omega, by omega⟩
  have s3 := size_calls (-65) ⟨by omega, by omega⟩
  have e2 : ((E 64).length : Int) = 2 := by decide
  have e3 : ((E (-65)).length : Int) = 2 := by decide
  rw [e2] at s2
  rw [e3] at s3
  refine Ev.rounds (g := fun k => cordonlaw3_VintSmall.f k a0 a1) ?_
  unfold cordonlaw3_VintSmall.f
  simp only [hx, Option.bind_some]
  refine Ev.bind s0 ?_
  by_cases hb : a1 < 128
  · refine Ev.bind (get_yes a1 b0 hb) ?_
    simp only [List.length_cons, List.length_nil, if_pos one]
    refine Ev.bind s1 ?_
    simp only [List.length_cons, List.length_nil, if_pos one]
    refine Ev.bind s2 ?_
    simp only [if_true]
    refine Ev.bind s3 ?_
    simp only [if_true]
    have hd : (true != decide (a1 < 128)) = false := by simp [hb]
    rw [hd]
    have hu : -64 ≤ unzz a1 ∧ unzz a1 ≤ 63 := by unfold unzz; split <;> omega
    have hEu : E (unzz a1) = [a1] := by unfold E; rw [zz_unzz a1 b0]; exact enc_small _ _ hb
    have p := put_one_calls (unzz a1) ⟨by omega, by omega⟩
    rw [hEu] at p
    have q := same_calls [a1] [a1] (by simp)
    have hq : decide ([a1] = [a1]) = true := by simp
    rw [hq] at q
    have hrd : rd [unzz a1] 0 = unzz a1 := rfl
    have hrd2 : rd [zz x] 0 = zz x := rfl
    have hlast : (((unzz a1) == x) == ((zz x) == a1)) = true := by
      by_cases h : unzz a1 = x
      · have : zz x = a1 := by rw [← h]; exact zz_unzz a1 b0
        simp [h, this]
      · have h2 : zz x ≠ a1 := fun hh => h (by rw [← hh]; exact unzz_zz x)
        have e1 : (unzz a1 == x) = false := by simpa using h
        have e2 : (zz x == a1) = false := by simpa using h2
        rw [e1, e2]; rfl
    refine Ev.step (f := fun k => (vint_Put.f k [unzz a1]).bind fun t166 => ((cordonbook_Same_byte.f k t166 (([a1] : List Int))).bind fun t172 => (if t172 = true then ((cordonlaw3_VintRuns.f k).bind fun t175 => (some t175)) else (some false)))) (fun k => ?_) ?_
    · simp only [cordonlaw3_VintSmall.j0, hrd, hrd2, hlast]
      rw [if_neg (by decide), if_pos trivial, if_pos (by simp), if_pos (by simp), if_neg (by omega), if_neg (by omega)]
      simp
    · refine Ev.bind p (Ev.bind q ?_)
      simp only [if_true]
      exact Ev.bind runs_calls (Ev.now _)
  · refine Ev.bind (get_no a1 (by omega) b1) ?_
    simp only [List.length_cons, List.length_nil, if_pos one]
    refine Ev.bind s1 ?_
    simp only [List.length_cons, List.length_nil, if_pos one]
    refine Ev.bind s2 ?_
    simp only [if_true]
    refine Ev.bind s3 ?_
    simp only [if_true]
    have hd : (false != decide (a1 < 128)) = false := by simp [hb]
    rw [hd]
    refine Ev.step (f := fun k => (cordonlaw3_VintRuns.f k).bind fun t176 => (some t176)) (fun k => ?_) (Ev.bind runs_calls (Ev.now _))
    simp only [cordonlaw3_VintSmall.j0]
    rw [if_neg (by decide), if_neg (by decide)]
end Go.Proofs.Ytoikgdmmcbaeiaa.Pure
