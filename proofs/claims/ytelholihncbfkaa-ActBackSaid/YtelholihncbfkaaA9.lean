import Derived.Test.YtelholihncbfkaaA8
namespace Go.Proofs.YtelholihncbfkaaS
open Go.RowKit Go.ChangeShapes Go.WideShapes
set_option linter.unusedVariables false
set_option linter.unusedSimpArgs false
theorem shapeO {H : Type} {enc : TypeId × Value → H} {W : World} {base : Nat} {held : Bool} : ∀ n cs y, DataW.trod enc Try.prog W base (fun _ => true) held n 69 cs = some y → ∃ o : Int × Int, cs = oc o ∧ (rng o.1 ∧ rng o.2) := by
  intro n cs y h
  have c3 : Try.prog.cellsOf 3 = 1 := by kernel_rfl
  have c23 : Try.prog.cellsOf 69 = 2 := by kernel_rfl
  obtain ⟨y0, y1, n1, rfl, hl, h0, h1⟩ := trod_struct2 Try.underlying69 h
  obtain ⟨m0, e0, _, w0⟩ := DataW.trod_int Try.underlying3 h0
  obtain ⟨m1, e1, _, w1⟩ := DataW.trod_int Try.underlying3 h1
  rw [c23] at hl
  match cs, hl with
  | [v0, v1], _ =>
    simp [c3] at e0 e1
    subst e0; subst e1
    exact ⟨(m0, m1), rfl, wf_i64 w0, wf_i64 w1⟩
theorem shapeI {H : Type} {enc : TypeId × Value → H} {W : World} {base : Nat} {held : Bool} : ∀ n cs y, DataW.trod enc Try.prog W base (fun _ => true) held n 26 cs = some y → ∃ x : In_, cs = ic x ∧ (rng x.2.1 ∧ rng x.2.2.1 ∧ rng x.2.2.2.1) := by
  intro n cs y h
  have c33 : Try.prog.cellsOf 26 = 5 := by kernel_rfl
  have c31 : Try.prog.cellsOf 24 = 4 := by kernel_rfl
  have c4 : Try.prog.cellsOf 4 = 1 := by kernel_rfl
  have c3 : Try.prog.cellsOf 3 = 1 := by kernel_rfl
  have c29 : Try.prog.cellsOf 22 = 1 := by kernel_rfl
  obtain ⟨y0, y1, n1, rfl, hl, h0, h1⟩ := trod_struct2 Try.underlying26 h
  obtain ⟨b, hb, _⟩ := DataW.trod_bool Try.underlying4 h0
  obtain ⟨z0, z1, z2, z3, n2, _, hl2, g0, g1, g2, g3⟩ := Go.Joins.trod_struct4 Try.underlying24 h1
  obtain ⟨m0, e0, _, w0⟩ := DataW.trod_int Try.underlying3 g0
  obtain ⟨m1, e1, _, w1⟩ := DataW.trod_int Try.underlying3 g1
  obtain ⟨m2, e2, _, w2⟩ := DataW.trod_int Try.underlying3 g2
  obtain ⟨m3, e3, _, _⟩ := DataW.trod_int Try.underlying22 g3
  rw [c33] at hl
  match cs, hl with
  | [v0, v1, v2, v3, v4], _ =>
    simp [c31, c4, c3, c29] at hb e0 e1 e2 e3
    subst hb; subst e0; subst e1; subst e2; subst e3
    exact ⟨(b, m0, m1, m2, m3), rfl, wf_i64 w0, wf_i64 w1, wf_i64 w2⟩
def goodP (W : World) (a : Option Addr) (c : Nat) (p : Pp) : Prop := Fits W (rs a (p.1.flatMap oc)) ∧ (∀ o ∈ p.1, rng o.1 ∧ rng o.2) ∧ p.1.length ≤ c ∧ rng p.2.1 ∧ rng p.2.2.1 ∧ rng p.2.2.2.1 ∧ rng p.2.2.2.2.1 ∧ rng p.2.2.2.2.2
theorem list6 {α : Type} {l : List α} (h : l.length = 6) : ∃ a b c d e f, l = [a, b, c, d, e, f] := by
  match l, h with
  | [a, b, c, d, e, f], _ => exact ⟨a, b, c, d, e, f, rfl⟩
theorem shapeP {H : Type} {enc : TypeId × Value → H} {W : World} {base : Nat} {held : Bool} : ∀ n cs y, DataW.trod enc Try.prog W base (fun _ => true) held n 29 cs = some y → ∃ a c p, cs = pv a c p ∧ goodP W a c p := by
  intro n cs y h
  have c3 : Try.prog.cellsOf 3 = 1 := by kernel_rfl
  have c24 : Try.prog.cellsOf 27 = 1 := by kernel_rfl
  have c26 : Try.prog.cellsOf 29 = 6 := by kernel_rfl
  obtain ⟨xs, n, _, _, hl, hlen, hfl⟩ := DataW.trod_struct Try.underlying29 h
  obtain ⟨v0, v1, v2, v3, v4, v5, rfl⟩ := list6 (hl.trans c26)
  obtain ⟨y0, y1, y2, y3, y4, y5, rfl⟩ := list6 (show xs.length = 6 from hlen)
  have h0 := hfl 0 _ rfl
  have h1 := hfl 1 _ rfl
  have h2 := hfl 2 _ rfl
  have h3 := hfl 3 _ rfl
  have h4 := hfl 4 _ rfl
  have h5 := hfl 5 _ rfl
  simp only [List.getElem?_cons_zero, List.getElem?_cons_succ] at h0 h1 h2 h3 h4 h5
  obtain ⟨a, L, c, e0, hfit, hrg, hc, _⟩ := slice_typed oc_len (by decide) shapeO Try.underlying27 (by kernel_rfl) h0
  obtain ⟨m1, e1, _, w1⟩ := DataW.trod_int Try.underlying3 h1
  obtain ⟨m2, e2, _, w2⟩ := DataW.trod_int Try.underlying3 h2
  obtain ⟨m3, e3, _, w3⟩ := DataW.trod_int Try.underlying3 h3
  obtain ⟨m4, e4, _, w4⟩ := DataW.trod_int Try.underlying3 h4
  obtain ⟨m5, e5, _, w5⟩ := DataW.trod_int Try.underlying3 h5
  simp [c3, c24] at e0 e1 e2 e3 e4 e5
  subst e0; subst e1; subst e2; subst e3; subst e4; subst e5
  exact ⟨a, c, (L, m1, m2, m3, m4, m5), rfl, hfit, hrg, hc, wf_i64 w1, wf_i64 w2, wf_i64 w3, wf_i64 w4, wf_i64 w5⟩
def goodA (x : Rt) : Prop := rng x.2.2.1 ∧ rng x.2.2.2.1 ∧ (∀ o ∈ x.2.2.2.2.2.2.1.1, rng o.1 ∧ rng o.2) ∧ x.2.2.2.2.2.2.1.1.length ≤ x.2.1 ∧ rng x.2.2.2.2.2.2.1.2.1 ∧ rng x.2.2.2.2.2.2.1.2.2.1 ∧ rng x.2.2.2.2.2.2.1.2.2.2.1 ∧ rng x.2.2.2.2.2.2.1.2.2.2.2.1 ∧ rng x.2.2.2.2.2.2.1.2.2.2.2.2 ∧ rng x.2.2.2.2.2.2.2.2.1 ∧ rng x.2.2.2.2.2.2.2.2.2.1 ∧ rng x.2.2.2.2.2.2.2.2.2.2.1
theorem openA {H : Type} {enc : TypeId × Value → H} {W : World} {b0 base : Nat} {held : Bool} {v : Value} {d : DataW H} {p : List MemPlace} (hv : Value.okWide Try.prog W .any b0 31 v) (h : DataW.Trod enc Try.prog W base (fun _ => true) held 31 v d p) :
    ∃ x : Rt, v = .agg (av x.1 x.2.1 x.2.2).toArray ∧ (Fits W (rs x.1 (x.2.2.2.2.2.2.1.1.flatMap oc)) ∧ goodA x) := by
  obtain ⟨cs, rfl, hsz⟩ := okWide_struct Try.underlying31 hv
  have c3 : Try.prog.cellsOf 3 = 1 := by kernel_rfl
  have c29 : Try.prog.cellsOf 29 = 6 := by kernel_rfl
  have c26 : Try.prog.cellsOf 26 = 5 := by kernel_rfl
  have c31 : Try.prog.cellsOf 31 = 15 := by kernel_rfl
  obtain ⟨l⟩ := cs
  obtain ⟨fuel, hf⟩ := h
  obtain ⟨xs, n, _, _, hl, hlen, hfl⟩ := DataW.trod_struct Try.underlying31 hf
  obtain ⟨y0, y1, y2, y3, y4, y5, rfl⟩ := list6 (show xs.length = 6 from hlen)
  have h0 := hfl 0 _ rfl
  have h1 := hfl 1 _ rfl
  have h2 := hfl 2 _ rfl
  have h3 := hfl 3 _ rfl
  have h4 := hfl 4 _ rfl
  have h5 := hfl 5 _ rfl
  simp only [List.getElem?_cons_zero, List.getElem?_cons_succ] at h0 h1 h2 h3 h4 h5
  obtain ⟨m0, e0, _, w0⟩ := DataW.trod_int Try.underlying3 h0
  obtain ⟨m1, e1, _, w1⟩ := DataW.trod_int Try.underlying3 h1
  obtain ⟨m2, e2, _, w2⟩ := DataW.trod_int Try.underlying3 h2
  obtain ⟨m3, e3, _, w3⟩ := DataW.trod_int Try.underlying3 h3
  obtain ⟨a, c, q, e4, hg⟩ := shapeP _ _ _ h4
  obtain ⟨i, e5, g1, g2, g3⟩ := shapeI _ _ _ h5
  have hl : l.length = 15 := hl.trans c31
  match l, hl with
  | [v0, v1, v2, v3, v4, v5, v6, v7, v8, v9, v10, v11, v12, v13, v14], _ =>
    simp [Value.cells, c3, c29, c26, pv, ic] at e0 e1 e2 e3 e4 e5
    obtain ⟨rfl, rfl, rfl, rfl, rfl, rfl⟩ := e4
    obtain ⟨rfl, rfl, rfl, rfl, rfl⟩ := e5
    subst e0; subst e1; subst e2; subst e3
    exact ⟨(a, c, (m0, m1, m2, m3, q, i)), rfl, hg.1, wf_i64 w0, wf_i64 w1, hg.2.1, hg.2.2.1, hg.2.2.2.1, hg.2.2.2.2.1, hg.2.2.2.2.2.1, hg.2.2.2.2.2.2.1, hg.2.2.2.2.2.2.2, g1, g2, g3⟩
end Go.Proofs.YtelholihncbfkaaS
