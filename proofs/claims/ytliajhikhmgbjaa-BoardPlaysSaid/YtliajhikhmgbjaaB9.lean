import Derived.Test.YtliajhikhmgbjaaB6
namespace Go.Proofs.YtliajhikhmgbjaaS
open Go.RowKit
set_option linter.unusedVariables false
theorem hs_bit (m : BitVec 64) (k : Nat) (hk : k < 64) : hs m (k : Int) = decide (m.toNat / 2 ^ k % 2 = 1) := by
  have hb : bt (k : Int) = 1#64 <<< k := by unfold bt; rw [if_pos ⟨by omega, by omega⟩, Int.toNat_natCast]
  have h1 : m.getLsbD k = decide (m.toNat / 2 ^ k % 2 = 1) := by
    show m.toNat.testBit k = _
    rw [Nat.testBit_eq_decide_div_mod_eq]
  rw [← h1]
  unfold hs
  rw [hb]
  cases hm : m.getLsbD k with
  | true =>
    have hne : m &&& 1#64 <<< k ≠ 0 := by
      intro h
      have := congrArg (fun x : BitVec 64 => x.getLsbD k) h
      simp [hk] at this
      rw [BitVec.getLsbD_eq_getElem hk, this] at hm
      cases hm
    rw [decide_eq_false hne]; rfl
  | false =>
    have hz : m &&& 1#64 <<< k = 0 := by
      apply BitVec.eq_of_getLsbD_eq
      intro i hi
      simp
      intro g1 g2
      by_cases e : i = k
      · subst e; rw [g1] at hm; cases hm
      · omega
    rw [decide_eq_true hz]; rfl
/-- What is told grows what one has. -/
theorem got_step (l : List Rl) (g : Nat) (n : Int) (hg : g < l.length) (hn : 1 ≤ n) : 1 ≤ tk n (l.length - g) ∧ l.take g ++ (l.drop g).take (tk n (l.length - g)) = l.take (g + tk n (l.length - g)) := by
  refine ⟨by unfold tk; rw [if_neg (by omega)]; omega, ?_⟩
  rw [List.take_add]
end Go.Proofs.YtliajhikhmgbjaaS
