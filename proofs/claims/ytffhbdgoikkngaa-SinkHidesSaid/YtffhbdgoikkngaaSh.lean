/- The small logic at a row: a law's contract over what its arguments read says what the row asks: it returns, and below the heap's size nothing has turned. -/
import Derived.Test.YtffhbdgoikkngaaSg
import Derived.Below
namespace Go.Proofs.YtffhbdgoikkngaaS
open Go.RowKit
variable {P : Program}
def all (W : World) (b : Nat) : Cell := match W.heap[b]? with
  | some o => some (false, o)
  | none => none
theorem all_some {W : World} {b : Nat} {o : Obj} (h : W.heap[b]? = some o) : all W b = some (false, o) := by unfold all; rw [h]
theorem of_all {W : World} {b : Nat} {v : Bool × Obj} (h : all W b = some v) : v.1 = false ∧ W.heap[b]? = some v.2 := by
  unfold all at h
  cases e : W.heap[b]? with
  | none => rw [e] at h; cases h
  | some o => rw [e] at h; cases h; exact ⟨rfl, rfl⟩
/-- All of a world's memory, to read. -/
def snap (W : World) : HP := fun h => ∀ b, h b = all W b
def Fits (W : World) (A : HP) : Prop := ∃ h, A h ∧ ∀ b v, h b = some v → v.1 = false ∧ W.heap[b]? = some v.2
theorem Fits.one (W) : Fits W 1 := ⟨fun _ => none, fun _ => rfl, fun b v e => by cases e⟩
theorem Fits.mul {W A B} (ha : Fits W A) (hb : Fits W B) : Fits W (A * B) := by
  obtain ⟨h1, a, k1⟩ := ha
  obtain ⟨h2, b, k2⟩ := hb
  have key : ∀ x, J (h1 x) (h2 x) (jf (h1 x) (h2 x)) := fun x => by
    cases e1 : h1 x with
    | none => exact rfl
    | some v1 =>
      cases e2 : h2 x with
      | none => exact rfl
      | some v2 =>
        have p := k1 x v1 e1
        have q := k2 x v2 e2
        have : v2.2 = v1.2 := Option.some.inj (q.2.symm.trans p.2)
        exact ⟨p.1, Prod.ext (q.1.trans p.1.symm) this, rfl⟩
  refine ⟨fun x => jf (h1 x) (h2 x), ⟨h1, h2, key, a, b⟩, fun x v e => ?_⟩
  have e' : jf (h1 x) (h2 x) = some v := e
  cases e1 : h1 x with
  | none => rw [e1] at e'; exact k2 x v e'
  | some v1 => rw [e1] at e'; exact k1 x v (e1.trans e')
theorem fits_rs {W : World} {a : Option Addr} {l : List Value} (hr : ∀ j v, l[j]? = some v → ∃ ad, a = some ad ∧ W.cell? (ad.add j) = some v) : Fits W (rs a l) := by
  refine ⟨all W, ⟨fun b x e => (of_all e).1, fun w hw j v hj => ?_⟩, fun b v e => of_all e⟩
  obtain ⟨ad, ha, hc⟩ := hr j v hj
  refine ⟨ad, ha, ?_⟩
  rw [← hc]
  have hb : ∃ o, W.heap[(ad.add j).block]? = some o := by
    cases h : W.heap[(ad.add j).block]? with
    | some o => exact ⟨o, rfl⟩
    | none => unfold World.cell? at hc; rw [h] at hc; cases hc
  obtain ⟨o, ho⟩ := hb
  exact World.cell?_of_block ((hw _ false o (all_some ho)).trans ho.symm)
theorem Fits.sat {W A} (h : Fits W A) : Sat W W (A * snap W) := by
  obtain ⟨r, a, k⟩ := h
  refine ⟨rfl, rfl, rfl, Nat.le_refl _, all W, ⟨r, all W, fun x => ?_, a, fun _ => rfl⟩, fun b p o e => (of_all e).2⟩
  cases e : r x with
  | none => exact rfl
  | some v =>
    have p := k x v e
    have hv : all W x = some v := by rw [all_some p.2]; exact congrArg some (Prod.ext p.1.symm rfl)
    rw [hv]
    exact ⟨p.1, rfl, rfl⟩
theorem law_calls {f : FuncId} {vs : List Value} {H : HP} {X : Type} {v : Value} {pr : X → Prop} {res : X → HP} (hs : Spec P f vs H (fun _ => v) pr res) {W : World} (hf : Fits W H) :
    Calls P f vs.toArray W (fun e w' => e = .returned v ∧ Below W.heap.size W w') := by
  refine (hs W W (snap W) hf.sat).mono ?_
  rintro e w' ⟨x, rfl, _, s⟩
  refine ⟨rfl, s.os, s.tape, s.output, s.size, fun b hb => ?_⟩
  obtain ⟨r, hr, hm⟩ := s.drop.mem
  rw [Array.getElem?_eq_getElem hb]
  exact hm b false _ ((hr b).trans (all_some (Array.getElem?_eq_getElem hb)))
/-- What a row's slice of whole numbers reads. -/
theorem fits_ints {W : World} {k : IntKind} {a : Option Addr} {zs : List Int} {len : Nat} (h : ∀ i, i < zs.length → ∃ ad, a = some ad ∧ W.cell? (ad.add i) = some (.int k (zs.getD i 0))) : Fits W (rs a (ints k (zs.take len))) := by
  refine fits_rs fun j v hj => ?_
  have hj' : j < (zs.take len).length := by
    have := (List.getElem?_eq_some_iff.1 hj).1
    simpa [ints] using this
  have hjz : j < zs.length := by simp at hj'; omega
  obtain ⟨ad, ha, hc⟩ := h j hjz
  refine ⟨ad, ha, hc.trans ?_⟩
  rw [← hj, ints]
  simp [List.getElem?_take, hjz]
  simp at hj'; omega
end Go.Proofs.YtffhbdgoikkngaaS
