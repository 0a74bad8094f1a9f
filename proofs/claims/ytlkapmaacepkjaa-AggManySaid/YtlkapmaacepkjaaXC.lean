import Derived.Test.YtlkapmaacepkjaaXB
import Derived.Test.YtlkapmaacepkjaaSi
namespace Go.Proofs.YtlkapmaacepkjaaS
open Go.RowKit Go.ChangeShapes Go.WideShapes
set_option linter.unusedVariables false
set_option linter.unusedSimpArgs false
def goodR (W : World) (r : Lr) : Prop := Fits W (rs r.1 (r.2.1.flatMap iv)) ∧ r.2.1.length ≤ r.2.2
theorem shape32 {H : Type} {enc : TypeId × Value → H} {W : World} {base : Nat} {held : Bool} : ∀ n cs y, DataW.trod enc Try.prog W base (fun _ => true) held n 32 cs = some y → ∃ r : Lr, cs = lc r ∧ goodR W r := by
  intro n cs y h
  rcases open_ints Try.underlying32 Try.underlying3 (by kernel_rfl) h with ⟨hcs, _⟩ | ⟨x, l, c, zs, hcs, _, hl, hm, hz, hx, hcell, hwz⟩
  · refine ⟨(none, [], 0), by rw [hcs]; rfl, ?_, Nat.le_refl _⟩
    exact fits_rs fun j v hj => by simp at hj
  · have hz' : zs.length = c := by simpa using hz
    have hlen : (zs.take l).length = l := by rw [List.length_take]; omega
    refine ⟨(some x, zs.take l, c), by rw [hcs]; unfold lc; simp only; rw [hlen], ?_, by show (zs.take l).length ≤ c; omega⟩
    show Fits W (rs (some x) ((zs.take l).flatMap iv))
    rw [iv_ints]
    exact fits_ints fun i hi => ⟨x, rfl, hcell i hi⟩
theorem fits_big {W : World} (L : List Lr) (h : ∀ r ∈ L, goodR W r) : Fits W (big L) := by
  induction L with
  | nil => exact Fits.one W
  | cons r L ih => exact Fits.mul (h r (List.mem_cons_self ..)).1 (ih fun x hx => h x (List.mem_cons_of_mem _ hx))
end Go.Proofs.YtlkapmaacepkjaaS
