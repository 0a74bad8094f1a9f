/- The listed table, as the row's condition lays it, read by the small logic; a start for the witness. -/
import Derived.Test.YtffhbdgoikkngaaDoorN2
import Derived.Test.YtffhbdgoikkngaaDoorRows
import Derived.Test.YtffhbdgoikkngaaDoorSi
import Derived.LaidMore
import Derived.LaidLaws
import Derived.LaidHandle
import Derived.MakeChecks
import Derived.OpenShut
namespace Go.Proofs.YtffhbdgoikkngaaDoorS
open Go.RowKit Go.ChangeShapes Go.WideShapes
abbrev laidT : List (String × DataW Unit) := [("math/bits.deBruijn64tab", Go.Proofs.YtffhbdgoikkngaaDoor.Rows.laid_math_bits_deBruijn64tab)]
theorem gTab : Tryd.prog.globalNamed "math/bits.deBruijn64tab" = some 0 := by kernel_rfl
theorem tTab : (Tryd.prog.globals[0]?).map (·.type) = some 59 := by kernel_rfl
theorem laid_eq : (Go.Proofs.YtffhbdgoikkngaaDoor.Rows.laid_math_bits_deBruijn64tab : DataW Unit) = .agg (tab.map fun z => .lit (.int .u8 z)) := rfl
theorem fits_tab {W : World} (h : laidMetH Tryd.prog laidT W) : Fits W (rs (some ⟨0, 0, none⟩) TB) := by
  rw [MakeChecks.laidMetH_plain _ _ _ (by kernel_rfl)] at h
  obtain ⟨ps, ⟨g0, t0, cs0, f0, p0, q0, hg0, ht0, hv0, hd0, _⟩, _, _⟩ := h
  obtain rfl := Option.some.inj (gTab.symm.trans hg0)
  obtain rfl := Option.some.inj (tTab.symm.trans ht0)
  rw [laid_eq] at hd0
  obtain ⟨xs, m1, rfl, hx1, hlen, hn, hel⟩ := DataW.trod_array Tryd.underlying59 hd0
  have c5 : Tryd.prog.cellsOf 5 = 1 := by kernel_rfl
  simp only [Prod.mk.injEq, DataW.agg.injEq] at hx1
  refine fits_rs fun j v hj => ⟨_, rfl, ?_⟩
  have hjt : j < tab.length := by
    have := (List.getElem?_eq_some_iff.1 hj).1
    simpa [TB, ints] using this
  have hj64 : j < 64 := hjt
  have hE := hel j hj64
  rw [c5, Nat.mul_one] at hE
  have hjx : j < xs.length := by omega
  rw [List.getElem?_eq_getElem hjx] at hE
  obtain ⟨k, e1, e2, _⟩ := DataW.trod_int Tryd.underlying5 hE
  have hk : k = tab[j] := by
    have h1 : (tab.map fun z => (DataW.lit (.int .u8 z) : DataW Unit))[j]? = (xs.map (·.1))[j]? := by rw [hx1.1]
    rw [List.getElem?_map, List.getElem?_map, List.getElem?_eq_getElem hjt, List.getElem?_eq_getElem hjx, e2] at h1
    simp at h1
    exact h1.symm
  have hv : v = .int .u8 tab[j] := by
    unfold TB at hj
    rw [ints_get hjt] at hj
    exact (Option.some.inj hj).symm
  have hadd : Addr.add ⟨0, 0, none⟩ j = ⟨0, j, none⟩ := by rw [add_none, Nat.zero_add]
  rw [hadd, World.var?_cell hg0 hv0 j, hv, ← hk]
  have h2 := congrArg (fun l => l[0]?) e1
  simp only [List.getElem?_cons_zero] at h2
  rw [List.getElem?_take, if_pos (by decide), List.getElem?_drop, Nat.add_zero] at h2
  rw [← h2]; simp
theorem door_met (os : Os) (args : Array Value) : laidMetH Tryd.prog laidT ((World.doorLaid Tryd.prog 400 os).forCall (fun _ _ => 0) ⟨#[], args, []⟩).memory :=
  laidMetH_of_parts3 (fuel := 8) (laidMet_of_run' 8 (by kernel_rfl) (by kernel_rfl)) (by kernel_rfl) (by kernel_rfl)
end Go.Proofs.YtffhbdgoikkngaaDoorS
