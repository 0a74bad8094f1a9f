/- The row of the law TopLabels: for every input that the statement lets in, the law returns true and each argument reads behind the call as it read before. No condition beyond the given ones. -/
import Derived.Test.YtcelailgedndnaaGreatRows
import Derived.Test.YtcelailgedndnaaGreatYE1
import Derived.WalkKit
import Derived.ProofKit
import Derived.OpenShut
import Derived.ShutString
import Derived.ChangeOld
import Derived.Below
import Derived.SizedLaws
namespace Go.Proofs.YtcelailgedndnaaGreat.topLabels
open Go.ChangeShapes Go.WideShapes Go.ChangeAt Go.RowKit
open Go.ChangeMaps (open_string shut_string)
set_option linter.unusedVariables false
theorem own : ownKnob Tryz.prog.godebug = none := by kernel_rfl
theorem laidOut : laidOutB Tryz.prog = true := by kernel_rfl
set_option maxRecDepth 100000 in
theorem lifted (os : Os) (started : os.Started) (H : Type) (enc : TypeId × Value → H) :
    ReturnsInHanded {} Tryz.checked os 5 .any (Rows.topLabelsSpec.pre6 enc Tryz.prog Tryz.f5 Rows.topLabelsRow.domain false) (Rows.topLabelsSpec.post enc Tryz.prog Tryz.f5 false true false false) := by
  refine returnsInHanded_of_change_sized (C := Tryz.checked) own started (by kernel_rfl) Tryz.func5
    (ChangeSpec.witness6 (enc := enc) (C := Tryz.checked) false ⟨#[], #[.agg #[.int .i64 0, .int .i64 0, .int .i64 0, .slice none 0 0], .slice none 0 0], []⟩ 8 (by kernel_rfl) (by kernel_rfl) (by kernel_rfl) (by kernel_rfl)) ?_
  intro W base args ds gs before hval0 hW hcnd hsz0 _
  have hsz : (DataW.weightsEach Tryz.prog (Tryz.f5.params.toList ++ Rows.topLabelsSpec.plain.varTypes Tryz.prog) (ds ++ gs)).all (· ≤ reachBytes) = true := hsz0
  have hval : ∀ (j : Nat) t v, Tryz.f5.params[j]? = some t → args[j]? = some v → Value.okWide Tryz.prog W .any base t v := hval0
  have hW' := hW
  obtain ⟨p, q, hA0, hV, rfl, hfz, hnd⟩ := hW
  have hA : DataW.TrodAll enc Tryz.prog W 0 (fun _ => true) true Tryz.f5.params.toList args.toList ds p := hA0
  rw [Tryz.params5] at hA hval hsz
  obtain ⟨v0, vs0, d0, ds0, p0, q0, hargs, rfl, rfl, h0, r0⟩ := trodAll_cons hA
  obtain ⟨v1, vs1, d1, ds1, p1, q1, rfl, rfl, rfl, h1, r1⟩ := trodAll_cons r0
  obtain ⟨rfl, rfl, rfl⟩ := trodAll_nil r1
  obtain rfl : args = #[v0, v1] := by cases args; simp_all
  obtain ⟨rfl, rfl⟩ := trodVars_none hV
  have k0 := h0
  have lt0 : ∀ x ∈ p0, x.block < W.heap.size := by obtain ⟨m, hm⟩ := k0; exact DataW.trod_lt m _ _ _ hm
  obtain ⟨z0, rfl, w0⟩ := Go.Proofs.YtcelailgedndnaaGreatS.openSU (hval 0 24 v0 rfl rfl) h0
  obtain ⟨a1, len1, cap1, rfl⟩ := okWide_slice Tryz.underlying72 (hval 1 72 v1 rfl rfl)
  have k1 := h1
  have lt1 : ∀ x ∈ p1, x.block < W.heap.size := by obtain ⟨m, hm⟩ := k1; exact DataW.trod_lt m _ _ _ hm
  obtain ⟨z1, rfl, f1, w1, y1, x1, u1⟩ := Go.Proofs.YtcelailgedndnaaGreatS.row_typed (cells := Go.Proofs.YtcelailgedndnaaGreatS.R.kac) Go.Proofs.YtcelailgedndnaaGreatS.R.kac_len (by decide) Go.Proofs.YtcelailgedndnaaGreatS.shapeKA hsz (j := 1) (t := 72) rfl rfl Tryz.underlying72 (by kernel_rfl) rfl h1
  clear hA0 hval0 hsz0 hsz
  refine (Go.Proofs.YtcelailgedndnaaGreatS.law_calls (Go.Proofs.YtcelailgedndnaaGreatS.topLabels z0 a1 z1 cap1 w0.2) (Go.Proofs.YtcelailgedndnaaGreatS.Fits.mul w0.1 (Go.Proofs.YtcelailgedndnaaGreatS.Fits.mul f1 (Go.Proofs.YtcelailgedndnaaGreatS.fits_pmS z1 w1)))).mono fun e W' ⟨he, bel⟩ => ?_
  subst he
  exact ⟨_, rfl, _, _, _, [], _, [], hW', trodAll_mk1 (shut_bool Tryz.underlying4 _), (trodAll_cons_mk (Below.trod laidOut (by kernel_rfl) (of_decide_eq_true (by kernel_rfl)) k0 bel lt0) (trodAll_cons_mk (Below.trod laidOut (by kernel_rfl) (of_decide_eq_true (by kernel_rfl)) k1 bel lt1) trodAll_mk0)), rfl, bel.frame _, fun h => by cases h⟩
theorem over : Rows.topLabelsRow.holds Tryz.pinned (OpenSpec.ofChange Rows.topLabelsSpec) :=
  OpenClaim.holds_of_wide 5 Tryz.f5 rfl rfl rfl rfl rfl rfl rfl ⟨rfl, rfl, rfl, rfl, rfl⟩ rfl rfl rfl rfl rfl (by kernel_rfl) Tryz.func5 (by kernel_rfl)
    (of_decide_eq_true (by kernel_rfl)) (by unfold Func.isWrapper; first | (rw [if_pos (by decide +kernel)]; kernel_rfl) | (rw [if_neg (by decide +kernel)]; exact ⟨rfl, rfl⟩))
    (fun os started H enc _ => lifted os started H enc)
theorem proved : Rows.TopLabelsSaid := over
#print axioms proved
end Go.Proofs.YtcelailgedndnaaGreat.topLabels
namespace Go.Proofs.YtcelailgedndnaaGreat
/-- The row, under a short name, for the claim. -/
theorem topLabels_holds : Rows.TopLabelsSaid := topLabels.proved
end Go.Proofs.YtcelailgedndnaaGreat
