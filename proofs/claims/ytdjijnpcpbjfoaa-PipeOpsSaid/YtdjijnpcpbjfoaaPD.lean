import Derived.Test.YtdjijnpcpbjfoaaPC
namespace Go.Proofs.YtdjijnpcpbjfoaaS
open Go.RowKit Go.ChangeShapes Go.WideShapes
set_option linter.unusedVariables false
set_option linter.unusedSimpArgs false
theorem list6 {α : Type} {l : List α} (h : l.length = 6) : ∃ a b c d e f, l = [a, b, c, d, e, f] := by
  match l, h with
  | [a, b, c, d, e, f], _ => exact ⟨a, b, c, d, e, f, rfl⟩
theorem shapeO {H : Type} {enc : TypeId × Value → H} {W : World} {base : Nat} {held : Bool} : ∀ n cs y, DataW.trod enc Try.prog W base (fun _ => true) held n 23 cs = some y → ∃ o : Int × Int, cs = oc o ∧ (rng o.1 ∧ rng o.2) := by
  intro n cs y h
  have c3 : Try.prog.cellsOf 3 = 1 := by kernel_rfl
  have c23 : Try.prog.cellsOf 23 = 2 := by kernel_rfl
  obtain ⟨xs, n, _, _, hl, hlen, hfl⟩ := DataW.trod_struct Try.underlying23 h
  have hl2 : cs.length = 2 := hl.trans c23
  match cs, hl2 with
  | [v0, v1], _ =>
    have hx2 : xs.length = 2 := hlen
    match xs, hx2 with
    | [y0, y1], _ =>
      have h0 := hfl 0 _ rfl
      have h1 := hfl 1 _ rfl
      simp only [List.getElem?_cons_zero, List.getElem?_cons_succ] at h0 h1
      obtain ⟨m0, e0, _, w0⟩ := DataW.trod_int Try.underlying3 h0
      obtain ⟨m1, e1, _, w1⟩ := DataW.trod_int Try.underlying3 h1
      simp [c3] at e0 e1
      subst e0; subst e1
      exact ⟨(m0, m1), rfl, wf_i64 w0, wf_i64 w1⟩
def goodA (W : World) (x : Pe) : Prop := Fits W (rs x.1 (x.2.2.1.flatMap oc)) ∧ (∀ o ∈ x.2.2.1, rng o.1 ∧ rng o.2) ∧ x.2.2.1.length ≤ x.2.1 ∧ rng x.2.2.2.1 ∧ rng x.2.2.2.2.1 ∧ rng x.2.2.2.2.2.1 ∧ rng x.2.2.2.2.2.2.1 ∧ rng x.2.2.2.2.2.2.2
theorem openAP {H : Type} {enc : TypeId × Value → H} {W : World} {b0 base : Nat} {held : Bool} {v : Value} {d : DataW H} {p : List MemPlace} (hv : Value.okWide Try.prog W .any b0 26 v) (h : DataW.Trod enc Try.prog W base (fun _ => true) held 26 v d p) :
    ∃ x : Pe, v = .agg (pe x).toArray ∧ goodA W x := by
  obtain ⟨cs, rfl, hsz⟩ := okWide_struct Try.underlying26 hv
  have c3 : Try.prog.cellsOf 3 = 1 := by kernel_rfl
  have c24 : Try.prog.cellsOf 24 = 1 := by kernel_rfl
  have c26 : Try.prog.cellsOf 26 = 6 := by kernel_rfl
  obtain ⟨l⟩ := cs
  obtain ⟨v0, v1, v2, v3, v4, v5, rfl⟩ := list6 (show l.length = 6 from hsz.trans c26)
  obtain ⟨fuel, hf⟩ := h
  obtain ⟨xs, n, _, _, hl, hlen, hfl⟩ := DataW.trod_struct Try.underlying26 hf
  obtain ⟨y0, y1, y2, y3, y4, y5, rfl⟩ := list6 (show xs.length = 6 from hlen)
  have h0 := hfl 0 _ rfl
  have h1 := hfl 1 _ rfl
  have h2 := hfl 2 _ rfl
  have h3 := hfl 3 _ rfl
  have h4 := hfl 4 _ rfl
  have h5 := hfl 5 _ rfl
  simp only [List.getElem?_cons_zero, List.getElem?_cons_succ] at h0 h1 h2 h3 h4 h5
  obtain ⟨a, L, c, e0, hfit, hrg, hc, _⟩ := slice_typed oc_len (by decide) shapeO Try.underlying24 (by kernel_rfl) h0
  obtain ⟨m1, e1, _, w1⟩ := DataW.trod_int Try.underlying3 h1
  obtain ⟨m2, e2, _, w2⟩ := DataW.trod_int Try.underlying3 h2
  obtain ⟨m3, e3, _, w3⟩ := DataW.trod_int Try.underlying3 h3
  obtain ⟨m4, e4, _, w4⟩ := DataW.trod_int Try.underlying3 h4
  obtain ⟨m5, e5, _, w5⟩ := DataW.trod_int Try.underlying3 h5
  simp [Value.cells, c3, c24] at e0 e1 e2 e3 e4 e5
  subst e0; subst e1; subst e2; subst e3; subst e4; subst e5
  exact ⟨(a, c, (L, m1, m2, m3, m4, m5)), rfl, hfit, hrg, hc, wf_i64 w1, wf_i64 w2, wf_i64 w3, wf_i64 w4, wf_i64 w5⟩
theorem dec_enc (p : Pp) (hrg : ∀ n ∈ pl p, rng n) (y : Dt) (h : dok (encb p) y) : (pir p = true → y.2.2.2 = true ∧ y.2.2.1 = p) ∧ (pir p = false → y.2.2.2 = false ∧ y.1 = none ∧ y.2.1 = 0 ∧ y.2.2.1 = p0) := by
  refine ⟨fun hp => ?_, fun hp => ?_⟩
  · have he : encb p = puts (pl p) := by unfold encb; rw [hp]; rfl
    rw [he] at h
    rcases h with ⟨h1, h2, h3, h4, _⟩ | ⟨_, _, _, _, h5⟩
    · exact ⟨h1, (pl_inj _ _ (puts_inj _ _ h4 hrg h3.symm))⟩
    · exact absurd rfl (h5 p hp hrg)
  · rw [encb_no hp] at h
    rcases h with ⟨h1, h2, h3, h4, _⟩ | ⟨h1, h2, h3, h4, _⟩
    · have := congrArg List.length h3
      have h6 := puts_pos (pl y.2.2.1)
      rw [pl_len] at h6
      simp at this
      rw [← this] at h6
      simp at h6
    · exact ⟨h1, h2, h3, h4⟩
theorem enc_eq (p q : Pp) (hp : pir p = true) (hq : pir q = true) (h1 : ∀ n ∈ pl p, rng n) (h2 : ∀ n ∈ pl q, rng n) : decide (encb p = encb q) = decide (p = q) := by
  unfold encb
  rw [hp, hq, if_pos rfl, if_pos rfl, decide_eq_decide]
  exact ⟨fun h => pl_inj _ _ (puts_inj _ _ h1 h2 h), fun h => by rw [h]⟩
end Go.Proofs.YtdjijnpcpbjfoaaS
