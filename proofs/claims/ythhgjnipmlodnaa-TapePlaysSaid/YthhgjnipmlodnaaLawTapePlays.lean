/- The row of the law TapePlays: for every input that the statement lets in, the law returns true and each argument reads behind the call as it read before. No condition beyond the given ones. -/
import Derived.Test.YthhgjnipmlodnaaRows
import Derived.Test.YthhgjnipmlodnaaSi
import Derived.Test.YthhgjnipmlodnaaTB
import Derived.WalkKit
import Derived.ProofKit
import Derived.OpenShut
import Derived.ShutString
import Derived.ChangeOld
import Derived.Below
import Derived.SizedLaws
namespace Go.Proofs.Ythhgjnipmlodnaa.tapePlays
open Go.ChangeShapes Go.WideShapes Go.ChangeAt Go.RowKit
open Go.ChangeMaps (open_string shut_string)
set_option linter.unusedVariables false
theorem own : ownKnob Try.prog.godebug = none := by kernel_rfl
theorem laidOut : laidOutB Try.prog = true := by kernel_rfl
set_option maxRecDepth 100000 in
theorem lifted (os : Os) (started : os.Started) (H : Type) (enc : TypeId × Value → H) :
    ReturnsInHanded {} Try.checked os 7 .any (Rows.tapePlaysSpec.pre6 enc Try.prog Try.f7 Rows.tapePlaysRow.domain false) (Rows.tapePlaysSpec.post enc Try.prog Try.f7 false true false false) := by
  refine returnsInHanded_of_change_sized (C := Try.checked) own started (by kernel_rfl) Try.func7
    (ChangeSpec.witness6 (enc := enc) (C := Try.checked) false ⟨#[], #[.slice none 0 0], []⟩ 8 (by kernel_rfl) (by kernel_rfl) (by kernel_rfl) (by kernel_rfl)) ?_
  intro W base args ds gs before hval0 hW hcnd hsz0 _
  have hsz : (DataW.weightsEach Try.prog (Try.f7.params.toList ++ Rows.tapePlaysSpec.plain.varTypes Try.prog) (ds ++ gs)).all (· ≤ reachBytes) = true := hsz0
  have hval : ∀ (j : Nat) t v, Try.f7.params[j]? = some t → args[j]? = some v → Value.okWide Try.prog W .any base t v := hval0
  have hW' := hW
  obtain ⟨p, q, hA0, hV, rfl, hfz, hnd⟩ := hW
  have hA : DataW.TrodAll enc Try.prog W 0 (fun _ => true) true Try.f7.params.toList args.toList ds p := hA0
  rw [Try.params7] at hA hval hsz
  obtain ⟨v0, vs0, d0, ds0, p0, q0, hargs, rfl, rfl, h0, r0⟩ := trodAll_cons hA
  obtain ⟨rfl, rfl, rfl⟩ := trodAll_nil r0
  obtain rfl : args = #[v0] := by cases args; simp_all
  obtain ⟨rfl, rfl⟩ := trodVars_none hV
  obtain ⟨a0, len0, cap0, rfl⟩ := okWide_slice Try.underlying39 (hval 0 39 v0 rfl rfl)
  have k0 := h0
  have lt0 : ∀ x ∈ p0, x.block < W.heap.size := by obtain ⟨m, hm⟩ := k0; exact DataW.trod_lt m _ _ _ hm
  obtain ⟨z0, rfl, f0, w0, y0, x0, u0⟩ := Go.Proofs.YthhgjnipmlodnaaS.row_typed (cells := Go.Proofs.YthhgjnipmlodnaaS.akc) Go.Proofs.YthhgjnipmlodnaaS.akc_len (by decide) Go.Proofs.YthhgjnipmlodnaaS.shapeA hsz (j := 0) (t := 39) rfl rfl Try.underlying39 (by kernel_rfl) rfl h0
  clear hA0 hval0 hsz0 hsz
  refine (Go.Proofs.YthhgjnipmlodnaaS.law_calls (Go.Proofs.YthhgjnipmlodnaaS.plays a0 z0 cap0 (fun q hq => (w0 q hq).2.2) (fun q hq r hr => ((w0 q hq).2.1 r hr).2)) (Go.Proofs.YthhgjnipmlodnaaS.Fits.mul f0 (Go.Proofs.YthhgjnipmlodnaaS.fits_abig z0 w0))).mono fun e W' ⟨he, bel⟩ => ?_
  subst he
  exact ⟨_, rfl, _, _, _, [], _, [], hW', trodAll_mk1 (shut_bool Try.underlying4 _), (trodAll_cons_mk (Below.trod laidOut (by kernel_rfl) (of_decide_eq_true (by kernel_rfl)) k0 bel lt0) trodAll_mk0), rfl, bel.frame _, fun h => by cases h⟩
theorem over : Rows.tapePlaysRow.holds Try.pinned (OpenSpec.ofChange Rows.tapePlaysSpec) :=
  OpenClaim.holds_of_wide 7 Try.f7 rfl rfl rfl rfl rfl rfl rfl ⟨rfl, rfl, rfl, rfl, rfl⟩ rfl rfl rfl rfl rfl (by kernel_rfl) Try.func7 (by kernel_rfl)
    (of_decide_eq_true (by kernel_rfl)) (by unfold Func.isWrapper; first | (rw [if_pos (by decide +kernel)]; kernel_rfl) | (rw [if_neg (by decide +kernel)]; exact ⟨rfl, rfl⟩))
    (fun os started H enc _ => lifted os started H enc)
theorem proved : Rows.TapePlaysSaid := over
#print axioms proved
end Go.Proofs.Ythhgjnipmlodnaa.tapePlays
namespace Go.Proofs.Ythhgjnipmlodnaa
/-- The row, under a short name, for the claim. -/
theorem tapePlays_holds : Rows.TapePlaysSaid := tapePlays.proved
end Go.Proofs.Ythhgjnipmlodnaa
