import Derived.Test.YtlhffhgocelgjaaX4
import Derived.Deep.Strs
namespace Go.Proofs.YtlhffhgocelgjaaS
open Go.RowKit Go.ChangeShapes Go.WideShapes
theorem shape33 {H : Type} {enc : TypeId × Value → H} {W : World} {base : Nat} {held : Bool} : ∀ n cs y, DataW.trod enc Try.prog W base (fun _ => true) held n 33 cs = some y → ∃ x : In, cs = ic x ∧ True := by
  intro n cs y h
  have c33 : Try.prog.cellsOf 33 = 5 := by kernel_rfl
  have c31 : Try.prog.cellsOf 31 = 4 := by kernel_rfl
  have c4 : Try.prog.cellsOf 4 = 1 := by kernel_rfl
  have c3 : Try.prog.cellsOf 3 = 1 := by kernel_rfl
  have c29 : Try.prog.cellsOf 29 = 1 := by kernel_rfl
  obtain ⟨y0, y1, n1, rfl, hl, h0, h1⟩ := trod_struct2 Try.underlying33 h
  obtain ⟨b, hb, _⟩ := DataW.trod_bool Try.underlying4 h0
  obtain ⟨z0, z1, z2, z3, n2, _, hl2, g0, g1, g2, g3⟩ := Go.Joins.trod_struct4 Try.underlying31 h1
  obtain ⟨m0, e0, _, _⟩ := DataW.trod_int Try.underlying3 g0
  obtain ⟨m1, e1, _, _⟩ := DataW.trod_int Try.underlying3 g1
  obtain ⟨m2, e2, _, _⟩ := DataW.trod_int Try.underlying3 g2
  obtain ⟨m3, e3, _, _⟩ := DataW.trod_int Try.underlying29 g3
  rw [c33] at hl
  match cs, hl with
  | [v0, v1, v2, v3, v4], _ =>
    simp [c31, c4, c3, c29] at hb e0 e1 e2 e3
    subst hb; subst e0; subst e1; subst e2; subst e3
    exact ⟨(b, m0, m1, m2, m3), rfl, trivial⟩
end Go.Proofs.YtlhffhgocelgjaaS
