/- The row of the law MaskSplit: for every input that the statement lets in, the law returns true and each argument reads behind the call as it read before. No condition beyond the given ones. -/
import Derived.Test.YtcchbfpidcdbgaaDoorRows
import Derived.Test.YtcchbfpidcdbgaaDoorCards
import Derived.Test.YtcchbfpidcdbgaaDoorTie
import Derived.Test.YtcchbfpidcdbgaaDoorSi
import Derived.Test.YtcchbfpidcdbgaaDoorCd
import Derived.Test.YtcchbfpidcdbgaaDoorXB
import Derived.SevenTiedAt
import Derived.LaidMore
import Derived.Stop.Joined
import Derived.WalkKit
import Derived.ProofKit
import Derived.OpenShut
import Derived.ShutString
import Derived.ChangeOld
import Derived.Below
import Derived.SizedLaws
namespace Go.Proofs.YtcchbfpidcdbgaaDoor.maskSplit
open Go.ChangeShapes Go.WideShapes Go.ChangeAt Go.RowKit
open Go.ChangeMaps (open_string shut_string)
set_option linter.unusedVariables false
theorem own : ownKnob Tryd.prog.godebug = none := by kernel_rfl
set_option maxRecDepth 100000 in
theorem lifted (os : Os) (started : os.Started) (H : Type) (enc : TypeId × Value → H) :
    ReturnsInHanded {} Tryd.checked os 8 .any (fun w args => (Rows.maskSplitSpec.pre enc Tryd.prog Tryd.f8 [] false w args ∧ laidMetH Tryd.prog Go.Proofs.YtcchbfpidcdbgaaDoorS.laidT w) ∧ sizedMet enc Tryd.prog Tryd.f8 (OpenSpec.ofChange Rows.maskSplitSpec) false w args) (Rows.maskSplitSpec.post enc Tryd.prog Tryd.f8 false true false false) := by
  refine returnsInHanded_of_change_and (C := Tryd.checked) (X := fun w _ => laidMetH Tryd.prog Go.Proofs.YtcchbfpidcdbgaaDoorS.laidT w) (fun _ _ _ hh h => h.of_heap hh) own started (by kernel_rfl) Tryd.func8
    (ChangeSpec.witness_shaped (enc := enc) (C := Tryd.checked) (os := os) (X := fun w _ => laidMetH Tryd.prog Go.Proofs.YtcchbfpidcdbgaaDoorS.laidT w) false (World.doorLaid Tryd.prog 400 os) #[.int .u64 0, .int .i64 0] 8 rfl (World.shaped_of_RefB (by kernel_rfl) (by kernel_rfl)) (by kernel_rfl) (by kernel_rfl) (by kernel_rfl) (Go.Proofs.YtcchbfpidcdbgaaDoorS.door_met os _)) ?_
  intro W base args ds gs before hval0 hW hcnd hsz0 hL _
  have hsz : (DataW.weightsEach Tryd.prog (Tryd.f8.params.toList ++ Rows.maskSplitSpec.plain.varTypes Tryd.prog) (ds ++ gs)).all (· ≤ reachBytes) = true := hsz0
  have hval : ∀ (j : Nat) t v, Tryd.f8.params[j]? = some t → args[j]? = some v → Value.okWide Tryd.prog W .any base t v := hval0
  have hW' := hW
  obtain ⟨p, q, hA0, hV, rfl, hfz, hnd⟩ := hW
  have hA : DataW.TrodAll enc Tryd.prog W 0 (fun _ => true) true Tryd.f8.params.toList args.toList ds p := hA0
  rw [Tryd.params8] at hA hval hsz
  obtain ⟨v0, vs0, d0, ds0, p0, q0, hargs, rfl, rfl, h0, r0⟩ := trodAll_cons hA
  obtain ⟨v1, vs1, d1, ds1, p1, q1, rfl, rfl, rfl, h1, r1⟩ := trodAll_cons r0
  obtain ⟨rfl, rfl, rfl⟩ := trodAll_nil r1
  obtain rfl : args = #[v0, v1] := by cases args; simp_all
  obtain ⟨rfl, rfl⟩ := trodVars_none hV
  obtain ⟨a0, rfl, rfl, rfl, w0⟩ := open_int Tryd.underlying24 (hval 0 24 v0 rfl rfl) h0
  obtain ⟨a1, rfl, rfl, rfl, w1⟩ := open_int Tryd.underlying3 (hval 1 3 v1 rfl rfl) h1
  clear hA0 hval0 hsz0 hsz
  refine (Go.Proofs.YtcchbfpidcdbgaaDoorS.law_calls (Go.Proofs.YtcchbfpidcdbgaaDoorS.splitI a0 a1 w0) (Go.Proofs.YtcchbfpidcdbgaaDoorS.fits_tab hL)).mono fun e W' ⟨he, bel⟩ => ?_
  subst he
  exact ⟨_, rfl, _, _, _, [], _, [], hW', trodAll_mk1 (shut_bool Tryd.underlying4 _), (trodAll_cons_mk (shut_int Tryd.underlying24 w0) (trodAll_cons_mk (shut_int Tryd.underlying3 w1) trodAll_mk0)), rfl, bel.frame _, fun h => by cases h⟩
theorem over : Rows.maskSplitRow.holds Tryd.pinned (OpenSpec.ofChange Rows.maskSplitSpec) :=
  OpenClaim.holds_of_wide 8 Tryd.f8 rfl rfl rfl rfl rfl rfl rfl ⟨rfl, rfl, rfl, rfl, rfl⟩ rfl rfl rfl rfl rfl (by kernel_rfl) Tryd.func8 (by kernel_rfl)
    (of_decide_eq_true (by kernel_rfl)) (by unfold Func.isWrapper; first | (rw [if_pos (by decide +kernel)]; kernel_rfl) | (rw [if_neg (by decide +kernel)]; exact ⟨rfl, rfl⟩))
    (fun os started H enc _ => lifted os started H enc)
theorem proved : Rows.MaskSplitSaid := over
#print axioms proved
end Go.Proofs.YtcchbfpidcdbgaaDoor.maskSplit
namespace Go.Proofs.YtcchbfpidcdbgaaDoor
/-- The tied card, out of the row and the given tie. -/
theorem maskSplitCard_holds : Rows.MaskSplitCardSaid :=
  Claim7.holds_tied_plain_at .later [] [.data] true (true, "4f820db1ed8a40cce45cd2ce3f83bf58000842312152607563b8474815f36d60") false
    maskSplit.proved (fun _ h => by cases h) (by kernel_rfl) (fun _ h => by cases h) maskSplit_row_tie rfl ⟨rfl, rfl⟩ (by kernel_rfl) rfl
    (fun f fn hf hfn => by
      obtain rfl : f = 8 := Option.some.inj ((show Tryd.prog.funcNamed "cordon/cordonlaw1.MaskSplit" = some 8 by kernel_rfl).symm.trans hf) |>.symm
      obtain rfl : fn = Tryd.f8 := (Option.some.inj (Tryd.func8.symm.trans hfn)).symm
      exact ⟨by kernel_rfl, fun j t ht => by
        rw [Tryd.params8] at ht
        have hm : t ∈ ([24, 3] : List TypeId) := by simpa using Array.mem_of_getElem? ht
        have hall : (([24, 3] : List TypeId).all fun u => !Tryd.prog.wantsStandIn u) = true := by kernel_rfl
        exact (show Tryd.prog.wantsStandIn t = false by simpa using List.all_eq_true.1 hall t hm)⟩)
    (by kernel_rfl)
#print axioms maskSplitCard_holds
end Go.Proofs.YtcchbfpidcdbgaaDoor
