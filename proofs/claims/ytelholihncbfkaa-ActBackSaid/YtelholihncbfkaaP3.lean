import Derived.Test.YtelholihncbfkaaP2
import Derived.Test.YtelholihncbfkaaSi
import Derived.Test.YtelholihncbfkaaTd
namespace Go.Proofs.YtelholihncbfkaaS
open Go.RowKit Go.ChangeShapes Go.WideShapes
set_option linter.unusedVariables false
set_option linter.unusedSimpArgs false
/-- A list of ints as an argument bears it: where, what, the room. -/
abbrev Il : Type := Option Addr × List Int × Nat
def il (r : Il) : Value := .slice r.1 r.2.1.length r.2.2
/-- A pipe of numbers. -/
abbrev Pk : Type := Il × Il × Int × Int × Int × Int × Int
def pc (p : Pk) : List Value := [il p.1, il p.2.1, .int .i64 p.2.2.1, .int .i64 p.2.2.2.1, .int .i64 p.2.2.2.2.1, .int .i64 p.2.2.2.2.2.1, .int .i64 p.2.2.2.2.2.2]
def pm (p : Pk) : HP := rs p.1.1 (ints .i64 p.1.2.1) * rs p.2.1.1 (ints .i64 p.2.1.2.1)
theorem list7 {α : Type} {l : List α} (h : l.length = 7) : ∃ a b c d e f g, l = [a, b, c, d, e, f, g] := by
  match l, h with
  | [a, b, c, d, e, f, g], _ => exact ⟨a, b, c, d, e, f, g, rfl⟩
theorem openIl {H : Type} {enc : TypeId × Value → H} {W : World} {base : Nat} {spare : Nat → Bool} {held : Bool} {n : Nat} {cs y} (h : DataW.trod enc Try.prog W base spare held n 39 cs = some y) : ∃ r : Il, cs = [il r] ∧ Fits W (rs r.1 (ints .i64 r.2.1)) := by
  rcases open_ints Try.underlying39 Try.underlying3 (by kernel_rfl) h with ⟨hcs, _⟩ | ⟨x, l, c, zs, hcs, _, hl, hm, hz, hx, hcell, hwz⟩
  · exact ⟨(none, [], 0), hcs, fits_rs fun j v hj => by simp [ints] at hj⟩
  · have hlen : (zs.take l).length = l := by rw [List.length_take]; split at hz <;> omega
    refine ⟨(some x, zs.take l, c), by rw [hcs]; unfold il; simp only; rw [hlen], fits_ints fun i hi => ⟨x, rfl, hcell i hi⟩⟩
theorem openP {H : Type} {enc : TypeId × Value → H} {W : World} {b0 base : Nat} {spare : Nat → Bool} {held : Bool} {v : Value} {d : DataW H} {p : List MemPlace} (hv : Value.okWide Try.prog W .any b0 41 v) (h : DataW.Trod enc Try.prog W base spare held 41 v d p) :
    ∃ k : Pk, v = .agg (pc k).toArray ∧ Fits W (pm k) := by
  obtain ⟨cs, rfl, hsz⟩ := okWide_struct Try.underlying41 hv
  have c3 : Try.prog.cellsOf 3 = 1 := by kernel_rfl
  have c36 : Try.prog.cellsOf 39 = 1 := by kernel_rfl
  have c42 : Try.prog.cellsOf 41 = 7 := by kernel_rfl
  obtain ⟨l⟩ := cs
  obtain ⟨v0, v1, v2, v3, v4, v5, v6, rfl⟩ := list7 (show l.length = 7 from hsz.trans c42)
  obtain ⟨fuel, hf⟩ := h
  obtain ⟨xs, n, _, _, hl, hlen, hfl⟩ := DataW.trod_struct Try.underlying41 hf
  obtain ⟨y0, y1, y2, y3, y4, y5, y6, rfl⟩ := list7 (show xs.length = 7 from hlen)
  have h0 := hfl 0 _ rfl
  have h1 := hfl 1 _ rfl
  have h2 := hfl 2 _ rfl
  have h3 := hfl 3 _ rfl
  have h4 := hfl 4 _ rfl
  have h5 := hfl 5 _ rfl
  have h6 := hfl 6 _ rfl
  simp only [List.getElem?_cons_zero, List.getElem?_cons_succ] at h0 h1 h2 h3 h4 h5 h6
  obtain ⟨r0, e0, f0⟩ := openIl h0
  obtain ⟨r1, e1, f1⟩ := openIl h1
  obtain ⟨m2, e2, _, _⟩ := DataW.trod_int Try.underlying3 h2
  obtain ⟨m3, e3, _, _⟩ := DataW.trod_int Try.underlying3 h3
  obtain ⟨m4, e4, _, _⟩ := DataW.trod_int Try.underlying3 h4
  obtain ⟨m5, e5, _, _⟩ := DataW.trod_int Try.underlying3 h5
  obtain ⟨m6, e6, _, _⟩ := DataW.trod_int Try.underlying3 h6
  simp [Value.cells, c3, c36] at e0 e1 e2 e3 e4 e5 e6
  subst e0; subst e1; subst e2; subst e3; subst e4; subst e5; subst e6
  exact ⟨(r0, r1, m2, m3, m4, m5, m6), rfl, Fits.mul f0 f1⟩
/-- A pipe of numbers is right. -/
theorem pip_ok {L : List (Int × Int)} {z s a k f : Int} (h1 : L.length ≤ 4) (h2 : L.all rt = true) (h3 : plc k = true) (h4 : plc f = true) : pipr L (psize z s) (wn s 1 12) (wn a 1 4) k f = true := by
  have bs := wn_bd s 1 12 (by omega)
  have ba := wn_bd a 1 4 (by omega)
  have e4 : IntKind.i64.wrap (4 * wn s 1 12) = 4 * wn s 1 12 := by rw [IntKind.wrap_i64]; omega
  have bz := wn_bd z (wn s 1 12) (4 * wn s 1 12) (by omega)
  unfold pipr wr psize
  rw [e4]
  generalize wn z (wn s 1 12) (4 * wn s 1 12) = Z at *
  generalize wn s 1 12 = S at *
  generalize wn a 1 4 = A at *
  have e5 : IntKind.i64.wrap (IntKind.i64.wrap (Z + S) - 1) = Z + S - 1 := by rw [IntKind.wrap_i64, IntKind.wrap_i64]; omega
  have q0 : 0 ≤ (Z + S - 1).tdiv S := Int.tdiv_nonneg (by omega) (by omega)
  have q1 : (Z + S - 1).tdiv S < 5 := by
    rw [Int.tdiv_eq_ediv_of_nonneg (by omega)]
    exact Int.ediv_lt_of_lt_mul (by omega) (by omega)
  have e6 : IntKind.i64.wrap ((Z + S - 1).tdiv S) = (Z + S - 1).tdiv S := by rw [IntKind.wrap_i64]; omega
  rw [e5, e6, h2, h3, h4]
  simp
  omega
theorem plc_wn (x : Int) : plc (wn x (-1) 1) = true := by
  have b := wn_bd x (-1) 1 (by omega)
  unfold plc
  generalize wn x (-1) 1 = y at *
  simp
  omega
end Go.Proofs.YtelholihncbfkaaS
