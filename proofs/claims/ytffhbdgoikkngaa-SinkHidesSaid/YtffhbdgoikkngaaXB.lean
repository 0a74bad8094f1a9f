import Derived.Test.YtffhbdgoikkngaaXA
import Derived.Test.YtffhbdgoikkngaaSi
import Derived.Test.YtffhbdgoikkngaaTd
namespace Go.Proofs.YtffhbdgoikkngaaS
open Go.RowKit Go.ChangeShapes Go.WideShapes
set_option linter.unusedVariables false
set_option linter.unusedSimpArgs false
theorem list2 {α : Type} {l : List α} (h : l.length = 2) : ∃ a b, l = [a, b] := by
  match l, h with
  | [a, b], _ => exact ⟨a, b, rfl⟩
theorem shapeW {H : Type} {enc : TypeId × Value → H} {W : World} {base : Nat} {held : Bool} : ∀ n cs y, DataW.trod enc Try.prog W base (fun _ => true) held n 34 cs = some y → ∃ s : Rw, cs = rwc s ∧ True := by
  intro n cs y h
  have c3 : Try.prog.cellsOf 3 = 1 := by kernel_rfl
  have c22 : Try.prog.cellsOf 22 = 1 := by kernel_rfl
  have c42 : Try.prog.cellsOf 34 = 5 := by kernel_rfl
  obtain ⟨xs, n, _, _, hl, hlen, hfl⟩ := DataW.trod_struct Try.underlying34 h
  obtain ⟨v0, v1, v2, v3, v4, rfl⟩ := list5 (show cs.length = 5 from hl.trans c42)
  obtain ⟨y0, y1, y2, y3, y4, rfl⟩ := list5 (show xs.length = 5 from hlen)
  have h0 := hfl 0 _ rfl
  have h1 := hfl 1 _ rfl
  have h2 := hfl 2 _ rfl
  have h3 := hfl 3 _ rfl
  have h4 := hfl 4 _ rfl
  simp only [List.getElem?_cons_zero, List.getElem?_cons_succ] at h0 h1 h2 h3 h4
  obtain ⟨m0, e0, _, _⟩ := DataW.trod_int Try.underlying3 h0
  obtain ⟨m1, e1, _, _⟩ := DataW.trod_int Try.underlying3 h1
  obtain ⟨m2, e2, _, _⟩ := DataW.trod_int Try.underlying3 h2
  obtain ⟨m3, e3, _, _⟩ := DataW.trod_int Try.underlying3 h3
  obtain ⟨m4, e4, _, w4⟩ := DataW.trod_int Try.underlying22 h4
  obtain ⟨b4, rfl⟩ := U_of w4
  simp [c3, c22] at e0 e1 e2 e3 e4
  subst e0; subst e1; subst e2; subst e3; subst e4
  exact ⟨(m0, m1, m2, m3, b4), rfl, trivial⟩
def goodG (W : World) (g : Gf) : Prop := Fits W (rs g.2.1 (g.2.2.1.flatMap rwc)) ∧ g.2.2.1.length ≤ g.2.2.2
theorem shapeG {H : Type} {enc : TypeId × Value → H} {W : World} {base : Nat} {held : Bool} : ∀ n cs y, DataW.trod enc Try.prog W base (fun _ => true) held n 53 cs = some y → ∃ g : Gf, cs = gc g ∧ goodG W g := by
  intro n cs y h
  have c3 : Try.prog.cellsOf 3 = 1 := by kernel_rfl
  have c51 : Try.prog.cellsOf 51 = 1 := by kernel_rfl
  have c53 : Try.prog.cellsOf 53 = 2 := by kernel_rfl
  obtain ⟨xs, n, _, _, hl, hlen, hfl⟩ := DataW.trod_struct Try.underlying53 h
  obtain ⟨v0, v1, rfl⟩ := list2 (show cs.length = 2 from hl.trans c53)
  obtain ⟨y0, y1, rfl⟩ := list2 (show xs.length = 2 from hlen)
  have h0 := hfl 0 _ rfl
  have h1 := hfl 1 _ rfl
  simp only [List.getElem?_cons_zero, List.getElem?_cons_succ] at h0 h1
  obtain ⟨m0, e0, _, _⟩ := DataW.trod_int Try.underlying3 h0
  obtain ⟨a, l, c, e1, hf, _, hc, _⟩ := slice_typed rwc_len (by decide) shapeW Try.underlying51 (by kernel_rfl) h1
  simp [c3, c51] at e0 e1
  subst e0; subst e1
  exact ⟨(m0, a, l, c), rfl, hf, hc⟩
theorem fits_gbig {W : World} (L : List Gf) (h : ∀ g ∈ L, goodG W g) : Fits W (gbig L) := by
  induction L with
  | nil => exact Fits.one W
  | cons r L ih => exact Fits.mul (h r (List.mem_cons_self ..)).1 (ih fun x hx => h x (List.mem_cons_of_mem _ hx))
end Go.Proofs.YtffhbdgoikkngaaS
