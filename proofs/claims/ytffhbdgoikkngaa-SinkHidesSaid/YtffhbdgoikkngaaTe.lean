/- The small logic: rows of ints as rows of one-celled elements. -/
import Derived.Test.YtffhbdgoikkngaaTc
namespace Go.Proofs.YtffhbdgoikkngaaS
open Go.RowKit
set_option linter.unusedVariables false
def cw (k : IntKind) (x : Int) : List Value := [.int k x]
theorem cw_len {k : IntKind} (x : Int) : (cw k x).length = 1 := rfl
theorem cw_one {k : IntKind} (x : Int) : ∀ v ∈ cw k x, v.oneCell' = true := by intro v hv; simp [cw] at hv; subst hv; rfl
theorem cw_ints {k : IntKind} (l : List Int) : l.flatMap (cw k) = ints k l := by
  induction l with
  | nil => rfl
  | cons x t ih => rw [List.flatMap_cons, ih]; rfl
theorem cw_flat {k : IntKind} (l : List Int) : (l.flatMap (cw k)).length = l.length := by rw [flat_len cw_len]; omega
theorem cw_get {k : IntKind} {l : List Int} {i : Nat} (h : i < l.length) : (l.flatMap (cw k))[(i : Int).toNat * 1]? = some (.int k l[i]) := by
  rw [cw_ints, Int.toNat_natCast, Nat.mul_one, ints_get h]
end Go.Proofs.YtffhbdgoikkngaaS
