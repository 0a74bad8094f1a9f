import Derived.Test.YthhgjnipmlodnaaT6
namespace Go.Proofs.YthhgjnipmlodnaaS
open Go.RowKit Go.ChangeShapes Go.WideShapes
set_option linter.unusedVariables false
set_option linter.unusedSimpArgs false
theorem shapeB {H : Type} {enc : TypeId × Value → H} {W : World} {base : Nat} {held : Bool} : ∀ n cs y, DataW.trod enc Try.prog W base (fun _ => true) held n 5 cs = some y → ∃ x : Int, cs = cw .u8 x ∧ True := by
  intro n cs y h
  obtain ⟨m0, e0, _, _⟩ := DataW.trod_int Try.underlying5 h
  subst e0
  exact ⟨m0, rfl, trivial⟩
def goodR (W : World) (r : Rr) : Prop := Fits W (rs r.1 (bw r.2.2)) ∧ r.2.2.length ≤ r.2.1
theorem shapeR {H : Type} {enc : TypeId × Value → H} {W : World} {base : Nat} {held : Bool} : ∀ n cs y, DataW.trod enc Try.prog W base (fun _ => true) held n 27 cs = some y → ∃ r : Rr, cs = rc1 r ∧ goodR W r := by
  intro n cs y h
  obtain ⟨a, l, c, e, hf, _, hc, _⟩ := slice_typed cw_len (by decide) shapeB Try.underlying27 (by kernel_rfl) h
  subst e
  exact ⟨(a, c, l), rfl, hf, hc⟩
theorem fits_rrs {W : World} (L : List Rr) (h : ∀ r ∈ L, goodR W r) : Fits W (rrs L) := by
  induction L with
  | nil => exact Fits.one W
  | cons r L ih => exact Fits.mul (h r (List.mem_cons_self ..)).1 (ih fun x hx => h x (List.mem_cons_of_mem _ hx))
end Go.Proofs.YthhgjnipmlodnaaS
