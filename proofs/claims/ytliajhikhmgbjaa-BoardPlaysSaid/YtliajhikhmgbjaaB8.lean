import Derived.Test.YtliajhikhmgbjaaB7
import Derived.Test.YtliajhikhmgbjaaSn
namespace Go.Proofs.YtliajhikhmgbjaaS
open Go.RowKit Go.ChangeShapes Go.WideShapes
set_option linter.unusedVariables false
theorem shapeL {H : Type} {enc : TypeId × Value → H} {W : World} {base : Nat} {held : Bool} : ∀ n cs y, DataW.trod enc Try.prog W base (fun _ => true) held n 25 cs = some y → ∃ x : Rl, cs = lc x ∧ True := by
  intro n cs y h
  have c25 : Try.prog.cellsOf 25 = 4 := by kernel_rfl
  have c4 : Try.prog.cellsOf 4 = 1 := by kernel_rfl
  have c3 : Try.prog.cellsOf 3 = 1 := by kernel_rfl
  obtain ⟨z0, z1, z2, z3, n2, _, hl, g0, g1, g2, g3⟩ := Go.Joins.trod_struct4 Try.underlying25 h
  obtain ⟨m0, e0, _, _⟩ := DataW.trod_int Try.underlying3 g0
  obtain ⟨m1, e1, _, _⟩ := DataW.trod_int Try.underlying3 g1
  obtain ⟨m2, e2, _, _⟩ := DataW.trod_int Try.underlying3 g2
  obtain ⟨b, hb, _⟩ := DataW.trod_bool Try.underlying4 g3
  rw [c25] at hl
  match cs, hl with
  | [v0, v1, v2, v3], _ =>
    simp [c4, c3] at hb e0 e1 e2
    subst hb; subst e0; subst e1; subst e2
    exact ⟨(m0, m1, m2, b), rfl, trivial⟩
theorem twinsL (a1 : Option Addr) (l1 : List Rl) (c1 : Nat) (a2 : Option Addr) (l2 : List Rl) (c2 : Nat) (T : Int) (tenant : Int) (w : (Lit.int .u64 T).wf = true) (y1 : l1.length ≤ c1) (y2 : l2.length ≤ c2) : Spec Try.prog 6 [.slice a1 l1.length c1, .slice a2 l2.length c2, .int .u64 T, .int .i64 tenant] (rs a1 (l1.flatMap lc) * rs a2 (l2.flatMap lc)) (X := Unit) (fun _ => .bool true) (fun _ => True) (fun _ => 1) := by
  obtain ⟨x, rfl⟩ := U_of w
  exact twins a1 l1 c1 a2 l2 c2 x tenant y1 y2
end Go.Proofs.YtliajhikhmgbjaaS
