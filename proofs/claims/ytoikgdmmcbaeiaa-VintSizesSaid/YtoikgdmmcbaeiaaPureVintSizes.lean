/- A number nearer to nought never has more bytes, and so many numbers fit into so many bytes: for every two ints. No condition. -/
import Derived.Test.YtoikgdmmcbaeiaaVbVintSizes
namespace Go.Proofs.Ytoikgdmmcbaeiaa.Pure
open Go.RowKit Go.Proofs.Ytoikgdmmcbaeiaa.PVintSizes Go.Proofs.YtoikgdmmcbaeiaaW.PrintWords Go.Proofs.YtoikgdmmcbaeiaaW.PrintLast Go.Proofs.YtoikgdmmcbaeiaaW.PrintMore Go.Proofs.Ytoikgdmmcbaeiaa.VM Go.Proofs.Ytoikgdmmcbaeiaa.VVintSizes

def nd : Nat → Int → Int
  | 0, u => if u > 0 then 1 else 0
  | f + 1, u => if u > 0 then nd f (u / 128) + 1 else 0
theorem nd_bd (f : Nat) : ∀ u, 0 ≤ nd f u ∧ nd f u ≤ f + 1 := by
  induction f with
  | zero => intro u; unfold nd; split <;> omega
  | succ f ih => intro u; unfold nd; have := ih (u / 128); split <;> omega
theorem enc_nd (f : Nat) : ∀ u : Int, 0 ≤ u → ((enc f u).length : Int) = mx (nd f u) 1 := by
  induction f with
  | zero => intro u h; unfold nd mx enc; split <;> simp
  | succ f ih =>
    intro u h
    by_cases h1 : u ≥ 128
    · have e : enc (f + 1) u = (u % 128 + 128) :: enc f (u / 128) := by rw [enc, if_pos h1]
      have e2 : nd (f + 1) u = nd f (u / 128) + 1 := by rw [nd, if_pos (by omega)]
      have := ih (u / 128) (by omega)
      have hb := nd_bd f (u / 128)
      have hp : 0 < nd f (u / 128) := by
        cases f with
        | zero => unfold nd; rw [if_pos (by omega)]; decide
        | succ f => unfold nd; rw [if_pos (by omega)]; have := nd_bd f (u / 128 / 128); omega
      rw [e, e2]
      unfold mx at *
      rw [if_neg (by omega)] at this
      rw [if_neg (by omega)]
      simp
      omega
    · have e : enc (f + 1) u = [u] := enc_small _ _ (by omega)
      rw [e]
      by_cases h0 : u > 0
      · have e2 : nd (f + 1) u = nd f (u / 128) + 1 := by rw [nd, if_pos h0]
        have e3 : nd f (u / 128) = 0 := by
          have : u / 128 = 0 := by omega
          rw [this]; cases f <;> simp [nd]
        rw [e2, e3]; rfl
      · have e2 : nd (f + 1) u = 0 := by rw [nd, if_neg h0]
        rw [e2]; rfl

theorem loop (f : Nat) : ∀ (x y kk c u : Int), 0 ≤ u → u < 128 ^ (f + 1) → 0 ≤ c → c + f < 1000000 →
    Ev (fun k => cordonlaw3_VintSizes.l0 k x y kk (c + nd f u) 0) true → Ev (fun k => cordonlaw3_VintSizes.l0 k x y kk c u) true := by
  induction f with
  | zero =>
    intro x y kk c u h0 h1 hc hc2 he
    unfold nd at he
    by_cases h : u > 0
    · rw [if_pos h] at he
      refine Ev.step (fun k => ?_) he
      have e : u / 128 = 0 := by omega
      have ew : wrap64 (c + 1) = c + 1 := by unfold wrap64; omega
      simp only [cordonlaw3_VintSizes.l0]
      rw [if_pos h, e, ew]
    · obtain rfl : u = 0 := by omega
      simpa using he
  | succ f ih =>
    intro x y kk c u h0 h1 hc hc2 he
    by_cases h : u > 0
    · have e2 : nd (f + 1) u = nd f (u / 128) + 1 := by rw [nd, if_pos h]
      refine Ev.step (fun k => ?_) (ih x y kk (c + 1) (u / 128) (by omega) (pow128 f u h1) (by omega) (by omega) ?_)
      · have ew : wrap64 (c + 1) = c + 1 := by unfold wrap64; omega
        simp only [cordonlaw3_VintSizes.l0]
        rw [if_pos h, ew]
      · rw [e2] at he
        have e : c + (nd f (u / 128) + 1) = c + 1 + nd f (u / 128) := by omega
        rw [e] at he; exact he
    · obtain rfl : u = 0 := by omega
      have e2 : nd (f + 1) 0 = 0 := by rw [nd, if_neg (by decide)]
      rw [e2] at he
      simpa using he

theorem last (x y : Int) (hx0 : 0 ≤ x) (hx : x ≤ 4611686018427387904) (hy0 : 0 ≤ y) (hy : y ≤ x) (c : Int) (hc : ((enc 9 (2 * x)).length : Int) = mx c 1) :
    Ev (fun k => cordonlaw3_VintSizes.l0 k x y ((enc 9 (2 * x)).length : Int) c 0) true := by
  have hzx : zz x = 2 * x := by unfold zz; rw [if_pos hx0]
  have hzy : zz y = 2 * y := by unfold zz; rw [if_pos hy0]
  have hzn : zz (-1 - x) = 2 * x + 1 := by unfold zz; rw [if_neg (by omega)]; omega
  have hzm : zz (-y) ≤ 2 * x := by unfold zz; split <;> omega
  have s1 := size_calls y ⟨by omega, by omega⟩
  have s2 := size_calls (-y) ⟨by omega, by omega⟩
  have s3 := size_calls (-1 - x) ⟨by omega, by omega⟩
  have s4 := put_one_calls x ⟨by omega, by omega⟩
  have l1 : (E y).length ≤ (enc 9 (2 * x)).length := by unfold E; rw [hzy]; exact enc_mono _ _ _ (by omega)
  have l2 : (E (-y)).length ≤ (enc 9 (2 * x)).length := by unfold E; exact enc_mono _ _ _ hzm
  have l3 : (E (-1 - x)).length = (enc 9 (2 * x)).length := by unfold E; rw [hzn]; exact enc_odd _ _
  have l4 : (E x).length = (enc 9 (2 * x)).length := by unfold E; rw [hzx]
  have e1 : wrap64 (-y) = -y := by unfold wrap64; omega
  have e2 : wrap64 (-1 - x) = -1 - x := by unfold wrap64; omega
  refine Ev.step (f := fun k => (vint_Size.f k y).bind fun t150 => (if t150 ≤ ((enc 9 (2 * x)).length : Int) then ((vint_Size.f k (wrap64 (-y))).bind fun t151 => (if t151 ≤ ((enc 9 (2 * x)).length : Int) then (if ((enc 9 (2 * x)).length : Int) = (mx c 1) then ((vint_Size.f k (wrap64 ((-1) - x))).bind fun t152 => (if t152 = ((enc 9 (2 * x)).length : Int) then ((vint_Put.f k (([x] : List Int))).bind fun t156 => (if (t156.length : Int) = ((enc 9 (2 * x)).length : Int) then ((cordonlaw3_VintRuns.f k).bind fun t159 => (some t159)) else (some false))) else (some false))) else (some false)) else (some false))) else (some false))) (fun k => ?_) ?_
  · simp only [cordonlaw3_VintSizes.l0]
    rw [if_neg (by decide)]
  · have c1 : ((E y).length : Int) ≤ ((enc 9 (2 * x)).length : Int) := by omega
    have c2 : ((E (-y)).length : Int) ≤ ((enc 9 (2 * x)).length : Int) := by omega
    have c3 : ((E (-1 - x)).length : Int) = ((enc 9 (2 * x)).length : Int) := by omega
    have c4 : ((E x).length : Int) = ((enc 9 (2 * x)).length : Int) := by omega
    rw [e1, e2]
    refine Ev.bind s1 ?_
    simp only [if_pos c1]
    refine Ev.bind s2 ?_
    simp only [if_pos c2, if_pos hc]
    refine Ev.bind s3 ?_
    simp only [if_pos c3]
    refine Ev.bind s4 ?_
    simp only [if_pos c4]
    exact Ev.bind runs_calls (Ev.now _)

theorem VintSizes : cordonlaw3_VintSizes.Pure := by
  intro a0 a1 _ _
  obtain ⟨x, hx, hx0, hx1⟩ := within_calls a0 0 4611686018427387904 (by decide) (by decide) (by decide) (by decide)
  obtain ⟨y, hy, hy0, hy1⟩ := within_calls a1 0 x hx0 (by decide) (by omega) (by omega)
  have hzx : zz x = 2 * x := by unfold zz; rw [if_pos hx0]
  have s := size_calls x ⟨by omega, by omega⟩
  have ex : (E x).length = (enc 9 (2 * x)).length := by unfold E; rw [hzx]
  have eu : IntKind.u64.wrap ((IntKind.u64.wrap x) * 2) = 2 * x := by rw [wu, wu]; omega
  refine Ev.rounds (g := fun k => cordonlaw3_VintSizes.f k a0 a1) ?_
  unfold cordonlaw3_VintSizes.f
  simp only [hx, hy, Option.bind_some]
  refine Ev.bind s ?_
  rw [eu, ex]
  have hb : (128 : Int) ^ (9 + 1) = 1180591620717411303424 := by decide
  refine loop 9 x y _ 0 (2 * x) (by omega) (by rw [hb]; omega) (by decide) (by decide) ?_
  rw [Int.zero_add]
  exact last x y hx0 hx1 hy0 hy1 _ (enc_nd 9 (2 * x) (by omega))
end Go.Proofs.Ytoikgdmmcbaeiaa.Pure
