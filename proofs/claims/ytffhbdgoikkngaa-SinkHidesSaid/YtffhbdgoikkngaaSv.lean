/- The small logic: guarded operations in regions whose order is drawn. -/
import Derived.Test.YtffhbdgoikkngaaSu
namespace Go.Proofs.YtffhbdgoikkngaaS
open Go.RowKit
set_option linter.unusedVariables false
variable {P : Program} {n : Nat} {ops : Array Oper} {rest : List Oper} {e : Env} {H : HP} {Φ : Post} {d : Nat} {ty : TypeId} {ps : String} {af : Array Edge} {K : Env → HP → Prop} {fuel : Nat} {listed : Array Bool}
theorem wp_oneG (j : Nat) {o : Oper} {a : Act} {w0 w : World} {F : HP} (r : Rep n e a) (s : Sat w0 w (H * F)) (hi : ops[j]? = some o)
    (h : Ops P n ops [o] e H (fun x e' H' => x = .normal ∧ OA P n ops fuel (listed.setIfInBounds j true) e' H' K)) : wpOp P ops (QQ w0 F n (fun x e H => x = .normal ∧ K e H)) j (wpAny P .any ops (QQ w0 F n (fun x e H => x = .normal ∧ K e H)) fuel (listed.setIfInBounds j true)) a w := by
  have h1 := h a w0 w F r s
  unfold wpList at h1
  unfold wpOp
  simp only [hi]
  have step : ∀ a w, wpList P ops (QQ w0 F n (fun x e' H' => x = .normal ∧ OA P n ops fuel (listed.setIfInBounds j true) e' H' K)) [] a w → wpAny P .any ops (QQ w0 F n (fun x e H => x = .normal ∧ K e H)) fuel (listed.setIfInBounds j true) a w :=
    fun a w ⟨e', H', r', ⟨_, ho⟩, s'⟩ => ho a w0 w F r' s'
  by_cases hw : Region.wanted o (yielded ops a.tmps) = true
  · rw [if_pos hw] at h1 ⊢
    rcases h1 with h1 | ⟨_, a', w', e', H', _, ⟨hx, _⟩, _⟩
    · left
      unfold Oper.wp at h1 ⊢
      revert h1
      generalize (execOp a.eval o).run P w = res
      have nope : ∀ c a w, ¬ QQ w0 F n (fun x e' H' => x = .normal ∧ OA P n ops fuel (listed.setIfInBounds j true) e' H' K) (.panic c) a w := fun c a w ⟨_, _, _, ⟨hx, _⟩, _⟩ => by cases hx
      have nopeo : ¬ LetsOut (QQ w0 F n (fun x e' H' => x = .normal ∧ OA P n ops fuel (listed.setIfInBounds j true) e' H' K)) := fun ⟨_, _, _, _, _, ⟨hx, _⟩, _⟩ => by cases hx
      cases res with
      | ok nx w1 =>
        cases nx <;> simp only [Oper.upon] <;> intro h1 <;>
          first
            | exact h1.elim
            | exact step _ _ h1
            | exact Calls.mono h1 (fun e w'' he => by
                cases e with
                | returned v => exact step _ _ he
                | panicked c => exact absurd he (nope _ _ _)
                | outgrown => exact absurd he nopeo)
            | exact Rows.mono h1 (fun _ _ he => step _ _ he)
      | halt hh w1 =>
        cases hh <;> simp only [Oper.upon] <;> intro h1 <;> first | exact h1.elim | exact absurd h1 (nope _ _ _)
    · cases hx
  · rw [if_neg hw] at h1 ⊢
    exact step _ _ h1
theorem oa_oneG (i : Nat) {o : Oper} (hr : Region.ready .any ops listed = [i]) (hi : ops[i]? = some o)
    (h : Ops P n ops [o] e H (fun x e' H' => x = .normal ∧ OA P n ops fuel (listed.setIfInBounds i true) e' H' K)) : OA P n ops (fuel + 1) listed e H K := fun a w0 w F r s => by
  refine And.intro (fun h0 => by rw [hr] at h0; simp at h0) (fun j hj => ?_)
  rw [hr] at hj
  obtain rfl : j = i := by simpa using hj
  exact wp_oneG j r s hi h
theorem oa_twoG (i j : Nat) {o q : Oper} (hr : Region.ready .any ops listed = [i, j]) (hi : ops[i]? = some o) (hj : ops[j]? = some q)
    (h : Ops P n ops [o] e H (fun x e' H' => x = .normal ∧ OA P n ops fuel (listed.setIfInBounds i true) e' H' K))
    (k : Ops P n ops [q] e H (fun x e' H' => x = .normal ∧ OA P n ops fuel (listed.setIfInBounds j true) e' H' K)) : OA P n ops (fuel + 1) listed e H K := fun a w0 w F r s => by
  refine And.intro (fun h0 => by rw [hr] at h0; simp at h0) (fun m hm => ?_)
  rw [hr] at hm
  have hm2 : m = i ∨ m = j := by simpa using hm
  rcases hm2 with rfl | rfl
  · exact wp_oneG m r s hi h
  · exact wp_oneG m r s hj k
/-- A guarded one that is wanted and only reckons. -/
theorem oa_firstY (i : Nat) {op : Op} {v : Value} {j t : Nat} {bw : Bool} (hi : ops[i]? = some ⟨some d, op, ty, ps, af, some (j, bw)⟩) (hns : Region.noSelect ops = true) (hfree : Region.free .any ops listed i = true) (hready : (Region.ready .any ops listed).contains i = true) (hd : d < n)
    (hj : (ops[j]?).bind (·.dst) = some t) (hn : t < n) (hb : e t = .bool bw)
    (h : ∀ w, (execOp (ev e) ⟨some d, op, ty, ps, af, some (j, bw)⟩).run P w = .ok (.value v) w) (k : OA P n ops fuel (listed.setIfInBounds i true) (put e d v) H K) : OA P n ops (fuel + 1) listed e H K := fun a w0 w F r s => by
  have hv := r.val t
  rw [hb] at hv
  have ht : a.tmps[t]? = some (.bool bw) := by
    have hs := r.size
    rw [Array.getD_eq_getD_getElem?, Array.getElem?_eq_getElem (by omega)] at hv
    rw [Array.getElem?_eq_getElem (by omega)]
    exact congrArg some hv
  have hy : Region.wanted ⟨some d, op, ty, ps, af, some (j, bw)⟩ (yielded ops a.tmps) = true := by
    unfold Region.wanted yielded
    simp [hj, ht]
  refine wpAny_first (v := v) hi (Region.noSelect_spec hns) ?_ fuel listed a w (Region.free_spec hi hfree) (by simpa using hready) (.inl ⟨hy, fun w => by rw [r.eval]; exact h w⟩) (k _ w0 w F (r.put hd v) s)
  intro c a w hq
  obtain ⟨e', H', _, hh, _⟩ := hq
  exact absurd hh.1 (by simp)
/-- A guarded one that isn't wanted. -/
theorem oa_firstN (i : Nat) {op : Op} {j t : Nat} {bw : Bool} (hi : ops[i]? = some ⟨some d, op, ty, ps, af, some (j, bw)⟩) (hns : Region.noSelect ops = true) (hfree : Region.free .any ops listed i = true) (hready : (Region.ready .any ops listed).contains i = true) (hd : d < n)
    (hj : (ops[j]?).bind (·.dst) = some t) (hn : t < n) (hb : e t = .bool (!bw) ∨ e t = undef)
    (k : OA P n ops fuel (listed.setIfInBounds i true) (put e d undef) H K) : OA P n ops (fuel + 1) listed e H K := fun a w0 w F r s => by
  have hv := r.val t
  have ht : a.tmps[t]? = some (e t) := by
    have hs := r.size
    rw [Array.getD_eq_getD_getElem?, Array.getElem?_eq_getElem (by omega)] at hv
    rw [Array.getElem?_eq_getElem (by omega)]
    exact congrArg some hv
  have hy : Region.wanted ⟨some d, op, ty, ps, af, some (j, bw)⟩ (yielded ops a.tmps) = false := by
    unfold Region.wanted yielded
    rcases hb with hb | hb <;> rw [hb] at ht
    · cases bw <;> simp [hj, ht]
    · simp only [hj, Option.bind_some, ht]; rfl
  refine wpAny_first (v := undef) hi (Region.noSelect_spec hns) ?_ fuel listed a w (Region.free_spec hi hfree) (by simpa using hready) (.inr ⟨hy, rfl⟩) (k _ w0 w F (r.put hd undef) s)
  intro c a w hq
  obtain ⟨e', H', _, hh, _⟩ := hq
  exact absurd hh.1 (by simp)
end Go.Proofs.YtffhbdgoikkngaaS
