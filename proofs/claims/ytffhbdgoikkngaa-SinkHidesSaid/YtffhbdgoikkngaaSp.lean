/- The small logic: more operations that only reckon, in regions whose order is drawn. -/
import Derived.Test.YtffhbdgoikkngaaSo
namespace Go.Proofs.YtffhbdgoikkngaaS
open Go.RowKit
set_option linter.unusedVariables false
variable {P : Program} {n : Nat} {ops : Array Oper} {rest : List Oper} {e : Env} {H : HP} {Φ : Post} {d : Nat} {ty : TypeId} {ps : String} {af : Array Edge} {K : Env → HP → Prop} {fuel : Nat} {listed : Array Bool}
theorem oa_as (i : Nat) {x : Operand} {v : Value} (hi : ops[i]? = some ⟨some d, .assign x, ty, ps, af, none⟩) (hns : Region.noSelect ops = true) (hfree : Region.free .any ops listed i = true) (hready : (Region.ready .any ops listed).contains i = true) (hd : d < n) (hx : ev e x = v)
    (c : OA P n ops fuel (listed.setIfInBounds i true) (put e d v) H K) : OA P n ops (fuel + 1) listed e H K := oa_first i hi hns hfree hready hd (fun _ => by simp only [execOp, hx]; rfl) c
theorem oa_ex (i : Nat) {x : Operand} {l : List Value} {j : Nat} {v : Value} (hi : ops[i]? = some ⟨some d, .extract x j, ty, ps, af, none⟩) (hns : Region.noSelect ops = true) (hfree : Region.free .any ops listed i = true) (hready : (Region.ready .any ops listed).contains i = true) (hd : d < n) (hx : ev e x = .tuple l.toArray) (hj : l[j]? = some v)
    (c : OA P n ops fuel (listed.setIfInBounds i true) (put e d v) H K) : OA P n ops (fuel + 1) listed e H K := oa_first i hi hns hfree hready hd (fun w => by simp [execOp, hx, Instr.extract, hj]) c
section
variable {α : Type} {cells : α → List Value} {sz : Nat} {k2 : IntKind} {xs : List α} {x y : Operand} {a : Option Addr} {cap st el bt t : Nat} {z : List Value}
theorem oa_dropT (i : Nat) (hc0 : ∀ x, (cells x).length = sz) [f : Slc P st el sz bt z] (hi : ops[i]? = some ⟨some d, .slice st x (some y) none none, ty, ps, af, none⟩) (hns : Region.noSelect ops = true) (hfree : Region.free .any ops listed i = true) (hready : (Region.ready .any ops listed).contains i = true) (hd : d < n)
    (hx : ev e x = .slice a xs.length cap) (hy : ev e y = .int k2 (t : Int)) (ht : t ≤ xs.length) (hc : xs.length ≤ cap)
    (c : ∀ a', (∀ H' [RdC H' a (xs.flatMap cells)], RdC H' a' ((xs.drop t).flatMap cells)) → OA P n ops fuel (listed.setIfInBounds i true) (put e d (.slice a' (xs.drop t).length (cap - t))) H K) : OA P n ops (fuel + 1) listed e H K := by
  obtain ⟨a', hr, h⟩ := run_dropT (P := P) (f := f) (d := d) (ty := ty) (ps := ps) (af := af) hc0 hx hy ht hc
  exact oa_first i hi hns hfree hready hd h (c a' hr)
theorem oa_takeT (i : Nat) (hc0 : ∀ x, (cells x).length = sz) [f : Slc P st el sz bt z] (hi : ops[i]? = some ⟨some d, .slice st x none (some y) none, ty, ps, af, none⟩) (hns : Region.noSelect ops = true) (hfree : Region.free .any ops listed i = true) (hready : (Region.ready .any ops listed).contains i = true) (hd : d < n)
    (hx : ev e x = .slice a xs.length cap) (hy : ev e y = .int k2 (t : Int)) (ht : t ≤ xs.length) (hc : xs.length ≤ cap)
    (c : ∀ a', (∀ H' [RdC H' a (xs.flatMap cells)], RdC H' a' ((xs.take t).flatMap cells)) → OA P n ops fuel (listed.setIfInBounds i true) (put e d (.slice a' (xs.take t).length cap)) H K) : OA P n ops (fuel + 1) listed e H K := by
  obtain ⟨a', hr, h⟩ := run_takeT (P := P) (f := f) (d := d) (ty := ty) (ps := ps) (af := af) hc0 hx hy ht hc
  exact oa_first i hi hns hfree hready hd h (c a' hr)
end
theorem wp_one (j : Nat) {o : Oper} {a : Act} {w0 w : World} {F : HP} (r : Rep n e a) (s : Sat w0 w (H * F)) (hi : ops[j]? = some o) (hg : o.guard = none)
    (h : Ops P n ops [o] e H (fun x e' H' => x = .normal ∧ OA P n ops fuel (listed.setIfInBounds j true) e' H' K)) : wpOp P ops (QQ w0 F n (fun x e H => x = .normal ∧ K e H)) j (wpAny P .any ops (QQ w0 F n (fun x e H => x = .normal ∧ K e H)) fuel (listed.setIfInBounds j true)) a w := by
  have h1 := h a w0 w F r s
  unfold wpList at h1
  unfold wpOp
  simp only [hi]
  have hw : Region.wanted o (yielded ops a.tmps) = true := by simp [Region.wanted, hg]
  rw [if_pos hw] at h1 ⊢
  rcases h1 with h1 | ⟨_, a', w', e', H', _, ⟨hx, _⟩, _⟩
  · left
    unfold Oper.wp at h1 ⊢
    revert h1
    generalize (execOp a.eval o).run P w = res
    have step : ∀ a w, wpList P ops (QQ w0 F n (fun x e' H' => x = .normal ∧ OA P n ops fuel (listed.setIfInBounds j true) e' H' K)) [] a w → wpAny P .any ops (QQ w0 F n (fun x e H => x = .normal ∧ K e H)) fuel (listed.setIfInBounds j true) a w :=
      fun a w ⟨e', H', r', ⟨_, ho⟩, s'⟩ => ho a w0 w F r' s'
    have nope : ∀ c a w, ¬ QQ w0 F n (fun x e' H' => x = .normal ∧ OA P n ops fuel (listed.setIfInBounds j true) e' H' K) (.panic c) a w := fun c a w ⟨_, _, _, ⟨hx, _⟩, _⟩ => by cases hx
    have nopeo : ¬ LetsOut (QQ w0 F n (fun x e' H' => x = .normal ∧ OA P n ops fuel (listed.setIfInBounds j true) e' H' K)) := fun ⟨_, _, _, _, _, ⟨hx, _⟩, _⟩ => by cases hx
    cases res with
    | ok nx w1 =>
      cases nx <;> simp only [Oper.upon] <;> intro h1 <;>
        first
          | exact h1.elim
          | exact step _ _ h1
          | exact Calls.mono h1 (fun e w'' he => by
              cases e with
              | returned v => exact step _ _ he
              | panicked c => exact absurd he (nope _ _ _)
              | outgrown => exact absurd he nopeo)
          | exact Rows.mono h1 (fun _ _ he => step _ _ he)
    | halt hh w1 =>
      cases hh <;> simp only [Oper.upon] <;> intro h1 <;> first | exact h1.elim | exact absurd h1 (nope _ _ _)
  · cases hx
/-- Two can come next: either way. -/
theorem oa_two (i j : Nat) {o q : Oper} (hr : Region.ready .any ops listed = [i, j]) (hi : ops[i]? = some o) (hg : o.guard = none) (hj : ops[j]? = some q) (hgj : q.guard = none)
    (h : Ops P n ops [o] e H (fun x e' H' => x = .normal ∧ OA P n ops fuel (listed.setIfInBounds i true) e' H' K))
    (k : Ops P n ops [q] e H (fun x e' H' => x = .normal ∧ OA P n ops fuel (listed.setIfInBounds j true) e' H' K)) : OA P n ops (fuel + 1) listed e H K := fun a w0 w F r s => by
  refine And.intro (fun h0 => by rw [hr] at h0; simp at h0) (fun m hm => ?_)
  rw [hr] at hm
  have hm2 : m = i ∨ m = j := by simpa using hm
  rcases hm2 with rfl | rfl
  · exact wp_one m r s hi hg h
  · exact wp_one m r s hj hgj k
end Go.Proofs.YtffhbdgoikkngaaS
