/- The small logic: rows of values of any type: pieces, copies, what is put behind. -/
import Derived.Test.YtffhbdgoikkngaaSn
namespace Go.Proofs.YtffhbdgoikkngaaS
open Go.RowKit
set_option linter.unusedVariables false
set_option linter.unusedSimpArgs false
variable {P : Program} {n : Nat} {ops : Array Oper} {rest : List Oper} {e : Env} {H : HP} {Φ : Post} {d : Nat} {ty : TypeId} {ps : String} {af : Array Edge}
section
variable {α : Type} {cells : α → List Value} {sz : Nat} {k2 : IntKind} {xs ys : List α} {x y : Operand} {a b : Option Addr} {cap st el bt t ck : Nat} {z : List Value}
theorem run_dropT (hc0 : ∀ x, (cells x).length = sz) [f : Slc P st el sz bt z] (hx : ev e x = .slice a xs.length cap) (hy : ev e y = .int k2 (t : Int)) (ht : t ≤ xs.length) (hc : xs.length ≤ cap) :
    ∃ a', (∀ H' [RdC H' a (xs.flatMap cells)], RdC H' a' ((xs.drop t).flatMap cells)) ∧ ∀ w, (execOp (ev e) ⟨some d, .slice st x (some y) none none, ty, ps, af, none⟩).run P w = .ok (.value (.slice a' (xs.drop t).length (cap - t))) w := by
  refine ⟨if cap = t then a else a.map (·.add (t * sz)), fun H' hr => ?_, fun w => ?_⟩
  rotate_left
  · rw [run_slice (lo := some y) (hi := none) (l := t) (h := xs.length) (f := f) hx rfl ⟨_, _, hy, by omega, by omega, by omega⟩ w, List.length_drop]
  · have := read_slice (a := a) (cap := cap) (sz := sz) (l := t) (h := xs.length) (cs := xs.flatMap cells) hc H'
    have e1 : (List.drop (t * sz) (xs.flatMap cells)).take ((xs.length - t) * sz) = (xs.drop t).flatMap cells := by
      rw [flat_drop hc0, flat_take hc0, List.take_of_length_le (by simp)]
    rw [e1] at this; exact this
theorem run_takeT (hc0 : ∀ x, (cells x).length = sz) [f : Slc P st el sz bt z] (hx : ev e x = .slice a xs.length cap) (hy : ev e y = .int k2 (t : Int)) (ht : t ≤ xs.length) (hc : xs.length ≤ cap) :
    ∃ a', (∀ H' [RdC H' a (xs.flatMap cells)], RdC H' a' ((xs.take t).flatMap cells)) ∧ ∀ w, (execOp (ev e) ⟨some d, .slice st x none (some y) none, ty, ps, af, none⟩).run P w = .ok (.value (.slice a' (xs.take t).length cap)) w := by
  refine ⟨if cap = 0 then a else a.map (·.add (0 * sz)), fun H' hr => ?_, fun w => ?_⟩
  rotate_left
  · rw [run_slice (lo := none) (hi := some y) (l := 0) (h := t) (f := f) hx ⟨_, _, hy, by omega, by omega, by omega⟩ rfl w, List.length_take, Nat.min_eq_left ht, Nat.sub_zero, Nat.sub_zero]
  · have := read_slice (a := a) (cap := cap) (sz := sz) (l := 0) (h := t) (cs := xs.flatMap cells) (by omega) H'
    have e1 : (List.drop (0 * sz) (xs.flatMap cells)).take ((t - 0) * sz) = (xs.take t).flatMap cells := by
      rw [flat_drop hc0, flat_take hc0, List.drop_zero, Nat.sub_zero]
    rw [e1] at this; exact this
theorem o_dropT (hc0 : ∀ x, (cells x).length = sz) [f : Slc P st el sz bt z] (hd : d < n) (hx : ev e x = .slice a xs.length cap) (hy : ev e y = .int k2 (t : Int)) (ht : t ≤ xs.length) (hc : xs.length ≤ cap)
    (c : ∀ a', (∀ H' [RdC H' a (xs.flatMap cells)], RdC H' a' ((xs.drop t).flatMap cells)) → Ops P n ops rest (put e d (.slice a' (xs.drop t).length (cap - t))) H Φ) : Ops P n ops (⟨some d, .slice st x (some y) none none, ty, ps, af, none⟩ :: rest) e H Φ := by
  obtain ⟨a', hr, h⟩ := run_dropT (P := P) (f := f) (d := d) (ty := ty) (ps := ps) (af := af) hc0 hx hy ht hc
  exact o_rfl hd h (c a' hr)
theorem o_takeT (hc0 : ∀ x, (cells x).length = sz) [f : Slc P st el sz bt z] (hd : d < n) (hx : ev e x = .slice a xs.length cap) {i : Int} (hy : ev e y = .int k2 i) (hi : i = (t : Int)) (ht : t ≤ xs.length) (hc : xs.length ≤ cap)
    (c : ∀ a', (∀ H' [RdC H' a (xs.flatMap cells)], RdC H' a' ((xs.take t).flatMap cells)) → Ops P n ops rest (put e d (.slice a' (xs.take t).length cap)) H Φ) : Ops P n ops (⟨some d, .slice st x none (some y) none, ty, ps, af, none⟩ :: rest) e H Φ := by
  subst hi
  obtain ⟨a', hr, h⟩ := run_takeT (P := P) (f := f) (d := d) (ty := ty) (ps := ps) (af := af) hc0 hx hy ht hc
  exact o_rfl hd h (c a' hr)
theorem run_ownT (K : Nat) (hc0 : ∀ x, (cells x).length = sz) [f : Slc P st el sz bt z] (hx : ev e x = .slice a xs.length cap) {i : Int} (hy : ev e y = .int k2 i) (hi : i = ((min xs.length K : Nat) : Int)) (hc : xs.length ≤ cap) :
    ∃ a', (∀ H' [RdC H' a (xs.flatMap cells)], RdC H' a' ((xs.take K).flatMap cells)) ∧ ∀ w, (execOp (ev e) ⟨some d, .slice st x none (some y) none, ty, ps, af, none⟩).run P w = .ok (.value (.slice a' (xs.take K).length cap)) w := by
  subst hi
  have e1 : xs.take (min xs.length K) = xs.take K := by rw [List.take_eq_take_iff]; omega
  obtain ⟨a', h1, h2⟩ := run_takeT (P := P) (f := f) (d := d) (ty := ty) (ps := ps) (af := af) hc0 hx hy (Nat.min_le_left _ _) hc
  rw [e1] at h2
  refine ⟨a', fun H' hr => ?_, h2⟩
  have := h1 H'
  rw [e1] at this; exact this
theorem o_ownT (K : Nat) (hc0 : ∀ x, (cells x).length = sz) [f : Slc P st el sz bt z] (hd : d < n) (hx : ev e x = .slice a xs.length cap) {i : Int} (hy : ev e y = .int k2 i) (hi : i = ((min xs.length K : Nat) : Int)) (hc : xs.length ≤ cap)
    (c : ∀ a', (∀ H' [RdC H' a (xs.flatMap cells)], RdC H' a' ((xs.take K).flatMap cells)) → Ops P n ops rest (put e d (.slice a' (xs.take K).length cap)) H Φ) : Ops P n ops (⟨some d, .slice st x none (some y) none, ty, ps, af, none⟩ :: rest) e H Φ := by
  obtain ⟨a', hr, h⟩ := run_ownT (P := P) (f := f) (d := d) (ty := ty) (ps := ps) (af := af) K hc0 hx hy hi hc
  exact o_rfl hd h (c a' hr)
theorem q_ownT {G : Env → Prop} (K : Nat) (hc0 : ∀ x, (cells x).length = sz) [f : Slc P st el sz bt z] (hd : d < n) (hx : ev e x = .slice a xs.length cap) {i : Int} (hy : ev e y = .int k2 i) (hi : i = ((min xs.length K : Nat) : Int)) (hc : xs.length ≤ cap)
    (c : ∀ a', (∀ H' [RdC H' a (xs.flatMap cells)], RdC H' a' ((xs.take K).flatMap cells)) → QO P n ops rest (put e d (.slice a' (xs.take K).length cap)) H G) : QO P n ops (⟨some d, .slice st x none (some y) none, ty, ps, af, none⟩ :: rest) e H G := by
  obtain ⟨a', hr, h⟩ := run_ownT (P := P) (f := f) (d := d) (ty := ty) (ps := ps) (af := af) K hc0 hx hy hi hc
  exact q_rfl hd h (c a' hr)
theorem o_appendT (hc0 : ∀ x, (cells x).length = sz) (h1c : ∀ x, ∀ v ∈ cells x, v.oneCell' = true) [f : Slc P st el sz bt z] {l news : List Value} {R : HP} {u : Array TypeId} (hd : d < n) (hx : ev e x = .slice a xs.length cap) (hy : ev e y = .slice b ys.length ck) (hu : u = #[st, st])
    [ho : HasO H el sz a xs.length cap l R] [hrd : RdC R b news] (h0 : l = xs.flatMap cells) (hn : news = ys.flatMap cells) (hb : (xs.length + ys.length) * bt ≤ 140737488355328) (hk : xs.length + ys.length ≤ maxLen)
    (c : ∀ a' cap', (xs ++ ys).length ≤ cap' → Ops P n ops rest (put e d (.slice a' (xs ++ ys).length cap')) (ow el sz a' (xs ++ ys).length cap' ((xs ++ ys).flatMap cells) * R) Φ) : Ops P n ops (⟨some d, .call ⟨.builtin .append, #[x, y], u⟩, ty, ps, af, none⟩ :: rest) e H Φ := by
  subst h0; subst hn
  refine o_append hd hx hy hu (flat_len hc0 ys) (fun v hv => by
    obtain ⟨q, _, hq⟩ := List.mem_flatMap.1 hv
    exact h1c q v hq) hb hk (fun a' cap' => ?_)
  intro x w0 w F r s
  have s1 := s
  rw [sep_assoc] at s1
  have h2 := (ow_cases s1).2.1
  have := c a' cap' (by simpa using h2)
  rw [List.length_append, List.flatMap_append] at this
  exact this x w0 w F r s
theorem o_copyT (hc0 : ∀ x, (cells x).length = sz) (h1c : ∀ x, ∀ v ∈ cells x, v.oneCell' = true) [f : Slc P st el sz bt z] {l news : List Value} {R : HP} {u : Array TypeId} (hd : d < n) (hx : ev e x = .slice a 0 cap) (hy : ev e y = .slice b ys.length ck) (hu : u = #[st, st])
    [ho : HasO H el sz a 0 cap l R] [hrd : RdC R b news] (h0 : l = []) (hn : news = ys.flatMap cells) (hb : ys.length * bt ≤ 140737488355328) (hk : ys.length ≤ maxLen)
    (c : ∀ a' cap', ys.length ≤ cap' → Ops P n ops rest (put e d (.slice a' ys.length cap')) (ow el sz a' ys.length cap' (ys.flatMap cells) * R) Φ) : Ops P n ops (⟨some d, .call ⟨.builtin .append, #[x, y], u⟩, ty, ps, af, none⟩ :: rest) e H Φ := by
  subst h0
  refine o_appendT (xs := []) (ys := ys) hc0 h1c hd hx hy hu rfl hn (by simpa using hb) (by simpa using hk) (fun a' cap' h => ?_)
  exact c a' cap' h
end
theorem Ent.ow_none (el sz : Nat) (H : HP) : Ent H (ow el sz none 0 0 [] * H) := by
  have h : Ent 1 (ow el sz none 0 0 []) := fun w0 w F s => by
    rw [one_sep] at s
    obtain ⟨r, hr, hm⟩ := s.mem
    exact ⟨s.os, s.tape, s.output, s.size, r, ⟨fun _ => none, r, fun _ => rfl, ⟨by simp, Nat.le_refl _, Nat.zero_le _, .inl ⟨rfl, fun _ => rfl⟩⟩, hr⟩, hm⟩
  exact Ent.trans (Ent.ofEq (one_sep H).symm) (h.frame H)
end Go.Proofs.YtffhbdgoikkngaaS
