/- The small logic: a slice of typed elements, wherever it lies, out of what is handed in. -/
import Derived.Test.YtffhbdgoikkngaaSn
namespace Go.Proofs.YtffhbdgoikkngaaS
open Go.RowKit
set_option linter.unusedVariables false
set_option linter.unusedSimpArgs false
variable {α : Type} {cells : α → List Value} {sz : Nat}
theorem slice_typed {H : Type} {enc : TypeId × Value → H} {P : Program} {W : World} {base : Nat} {held : Bool} {t e : TypeId} {cs0 : List Value} {n0 : Nat} {y0 : DataW H × List MemPlace}
    (hlen : ∀ x, (cells x).length = sz) (hp : 0 < sz) {good : α → Prop} (shape : ∀ n cs y, DataW.trod enc P W base (fun _ => true) held n e cs = some y → ∃ x, cs = cells x ∧ good x)
    (hu : P.underlying t = some (.slice e)) (hc : P.cellsOf e = sz)
    (hf : DataW.trod enc P W base (fun _ => true) held n0 t cs0 = some y0) :
    ∃ (a : Option Addr) (l : List α) (cap : Nat), cs0 = [.slice a l.length cap] ∧ Fits W (rs a (l.flatMap cells)) ∧ (∀ x ∈ l, good x) ∧ l.length ≤ cap ∧ cap ≤ maxLen := by
  rcases DataW.trod_slice hu hf with ⟨hcs, _⟩ | ⟨x, len, c, elems, rest, n, _, hcs, hx, hb, hl, hm, hle, hel, hsp, _⟩
  · exact ⟨none, [], 0, hcs, fits_rs (fun j v hj => by simp at hj), fun n hn => (by cases hn), Nat.le_refl _, Nat.zero_le _⟩
  · subst hcs
    have key : ∀ k, k ≤ len → ∃ l : List α, l.length = k ∧ (∀ i x', l[i]? = some x' → (∀ r v, (cells x')[r]? = some v → W.cell? (x.add (i * sz + r)) = some v) ∧ good x') := by
      intro k
      induction k with
      | zero => intro _; exact ⟨[], rfl, fun i x' hx' => by simp at hx'⟩
      | succ k ih =>
        intro hk
        obtain ⟨l0, hl0, h0⟩ := ih (by omega)
        have he := hel k (by omega)
        rw [List.getElem?_eq_getElem (by omega), Option.bind_eq_some_iff] at he
        obtain ⟨cs, hcs, hy⟩ := he
        obtain ⟨x', rfl, hg⟩ := shape _ _ _ hy
        refine ⟨l0 ++ [x'], by simp [hl0], fun i u hq => ?_⟩
        by_cases hi : i < l0.length
        · rw [List.getElem?_append_left hi] at hq; exact h0 i u hq
        · have hik : i = k := by
            have := (List.getElem?_eq_some_iff.1 hq).1
            simp at this; omega
          subst hik
          rw [List.getElem?_append_right (by omega), hl0, Nat.sub_self] at hq
          obtain rfl : x' = u := by simpa using hq
          refine ⟨fun r v hv => ?_, hg⟩
          rw [hc] at hcs
          have hrl : r < sz := by rw [← hlen x']; exact (List.getElem?_eq_some_iff.1 hv).1
          have := (World.cells?_some hcs).2.2 r hrl
          rw [← add_add, this, hv]
    obtain ⟨l, hl', hall⟩ := key len (Nat.le_refl _)
    refine ⟨some x, l, c, by rw [hl'], fits_rs (fun j v hj => ?_), fun x' hx' => ?_, by rw [hl']; exact hl, hm⟩
    · obtain ⟨x', hx', hv⟩ := flat_get hlen hp l j v hj
      refine ⟨x, rfl, ?_⟩
      have := (hall _ _ hx').1 _ _ hv
      rw [show j / sz * sz + j % sz = j by rw [Nat.mul_comm]; exact Nat.div_add_mod j sz] at this
      exact this
    · obtain ⟨i, hi⟩ := List.getElem?_of_mem hx'
      exact (hall i x' hi).2
end Go.Proofs.YtffhbdgoikkngaaS
