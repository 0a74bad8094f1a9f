/- The small logic at a row's arguments: a slice of values of any type whose cells are known by their shape. -/
import Derived.Test.YtffhbdgoikkngaaSm
import Derived.DataReads
import Derived.Lib.SmallJoins
namespace Go.Proofs.YtffhbdgoikkngaaS
open Go.RowKit Go.ChangeShapes Go.WideShapes
set_option linter.unusedVariables false
set_option linter.unusedSimpArgs false
section
variable {α : Type} {cells : α → List Value} {sz : Nat}
theorem flat_len (h : ∀ x, (cells x).length = sz) (l : List α) : (l.flatMap cells).length = l.length * sz := by
  induction l with
  | nil => simp
  | cons x t ih => simp [ih, h, Nat.succ_mul, Nat.add_comm]
theorem flat_drop (h : ∀ x, (cells x).length = sz) (l : List α) (i : Nat) : (l.flatMap cells).drop (i * sz) = (l.drop i).flatMap cells := by
  induction i generalizing l with
  | zero => simp
  | succ i ih =>
    cases l with
    | nil => simp
    | cons x t =>
      rw [List.flatMap_cons, List.drop_succ_cons, ← ih t, Nat.succ_mul, Nat.add_comm, ← List.drop_drop]
      congr 1
      rw [← h x]; exact List.drop_left
theorem flat_take (h : ∀ x, (cells x).length = sz) (l : List α) (i : Nat) : (l.flatMap cells).take (i * sz) = (l.take i).flatMap cells := by
  induction i generalizing l with
  | zero => simp
  | succ i ih =>
    cases l with
    | nil => simp
    | cons x t =>
      rw [List.flatMap_cons, List.take_succ_cons, List.flatMap_cons, ← ih t, Nat.succ_mul, Nat.add_comm, ← h x, List.take_length_add_append]
theorem flat_sub (h : ∀ x, (cells x).length = sz) (l : List α) (i : Nat) (hi : i < l.length) : ((l.flatMap cells).drop (i * sz)).take sz = cells l[i] := by
  rw [flat_drop h, List.drop_eq_getElem_cons hi, List.flatMap_cons, ← h l[i]]
  exact List.take_left
theorem flat_get (h : ∀ x, (cells x).length = sz) (hp : 0 < sz) (l : List α) (j : Nat) (v : Value) (hj : (l.flatMap cells)[j]? = some v) : ∃ x, l[j / sz]? = some x ∧ (cells x)[j % sz]? = some v := by
  have hlt : j < l.length * sz := by rw [← flat_len h]; exact (List.getElem?_eq_some_iff.1 hj).1
  have hi : j / sz < l.length := Nat.div_lt_of_lt_mul (by rw [Nat.mul_comm]; exact hlt)
  refine ⟨l[j / sz], List.getElem?_eq_getElem hi, ?_⟩
  rw [← flat_sub h l (j / sz) hi, List.getElem?_take, if_pos (Nat.mod_lt _ hp), List.getElem?_drop, ← hj]
  congr 1
  rw [Nat.mul_comm]; exact Nat.div_add_mod j sz
theorem row_typed {H : Type} {enc : TypeId × Value → H} {P : Program} {W : World} {base : Nat} {held : Bool} {t e : TypeId} {a : Option Addr} {len cap : Nat} {d : DataW H} {ps : List MemPlace} {ts : List TypeId} {ds : List (DataW H)} {j : Nat}
    (hlen : ∀ x, (cells x).length = sz) (hp : 0 < sz) {good : α → Prop} (shape : ∀ n cs y, DataW.trod enc P W base (fun _ => true) held n e cs = some y → ∃ x, cs = cells x ∧ good x)
    (hsz : (DataW.weightsEach P ts ds).all (· ≤ reachBytes) = true) (ht : ts[j]? = some t) (hd : ds[j]? = some d) (hu : P.underlying t = some (.slice e)) (hc : P.cellsOf e = sz) {B : Nat} (hB : P.bytesOf e = B)
    (h : DataW.Trod enc P W base (fun _ => true) held t (.slice a len cap) d ps) :
    ∃ l : List α, l.length = len ∧ Fits W (rs a (l.flatMap cells)) ∧ (∀ x ∈ l, good x) ∧ len ≤ cap ∧ cap ≤ maxLen ∧ cap * B ≤ 140737488351232 := by
  obtain ⟨fuel, hf⟩ := h
  rcases DataW.trod_slice hu hf with ⟨hcs, _⟩ | ⟨x, l, c, elems, rest, n, _, hcs, hx, hb, hl, hm, hle, hel, hsp, _⟩
  · simp [Value.cells] at hcs
    obtain ⟨rfl, rfl, rfl⟩ := hcs
    exact ⟨[], rfl, fits_rs (fun j v hj => by simp at hj), fun n hn => (by cases hn), Nat.le_refl _, Nat.zero_le _, by simp⟩
  · simp [Value.cells] at hcs
    obtain ⟨rfl, rfl, rfl⟩ := hcs
    have hdx : d = .slice (elems.map (·.1)) (rest.map (·.1)) := congrArg Prod.fst hx
    subst hdx
    have hr := (hsp rfl).1
    have z := sized_slice hsz ht hd hu
    rw [hB] at z
    have z2 : cap * B ≤ 140737488351232 := by
      simp only [List.length_map, hle, hr] at z
      rw [show len + (cap - len) = cap by omega] at z
      exact z
    have key : ∀ k, k ≤ len → ∃ l : List α, l.length = k ∧ (∀ i x', l[i]? = some x' → (∀ r v, (cells x')[r]? = some v → W.cell? (x.add (i * sz + r)) = some v) ∧ good x') := by
      intro k
      induction k with
      | zero => intro _; exact ⟨[], rfl, fun i x' hx' => by simp at hx'⟩
      | succ k ih =>
        intro hk
        obtain ⟨l0, hl0, h0⟩ := ih (by omega)
        have he := hel k (by omega)
        rw [List.getElem?_eq_getElem (by omega), Option.bind_eq_some_iff] at he
        obtain ⟨cs, hcs, hy⟩ := he
        obtain ⟨x', rfl, hg⟩ := shape _ _ _ hy
        refine ⟨l0 ++ [x'], by simp [hl0], fun i u hq => ?_⟩
        by_cases hi : i < l0.length
        · rw [List.getElem?_append_left hi] at hq; exact h0 i u hq
        · have hik : i = k := by
            have := (List.getElem?_eq_some_iff.1 hq).1
            simp at this; omega
          subst hik
          rw [List.getElem?_append_right (by omega), hl0, Nat.sub_self] at hq
          obtain rfl : x' = u := by simpa using hq
          refine ⟨fun r v hv => ?_, hg⟩
          rw [hc] at hcs
          have hrl : r < sz := by rw [← hlen x']; exact (List.getElem?_eq_some_iff.1 hv).1
          have := (World.cells?_some hcs).2.2 r hrl
          rw [← add_add, this, hv]
    obtain ⟨l, hl', hall⟩ := key len (Nat.le_refl _)
    refine ⟨l, hl', fits_rs (fun j v hj => ?_), fun x' hx' => ?_, hl, hm, z2⟩
    · obtain ⟨x', hx', hv⟩ := flat_get hlen hp l j v hj
      refine ⟨x, rfl, ?_⟩
      have := (hall _ _ hx').1 _ _ hv
      rw [show j / sz * sz + j % sz = j by rw [Nat.mul_comm]; exact Nat.div_add_mod j sz] at this
      exact this
    · obtain ⟨i, hi⟩ := List.getElem?_of_mem hx'
      exact (hall i x' hi).2
end
end Go.Proofs.YtffhbdgoikkngaaS
