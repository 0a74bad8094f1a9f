import Derived.Test.YtelholihncbfkaaAB
namespace Go.Proofs.YtelholihncbfkaaS
open Go.RowKit Go.ChangeShapes Go.WideShapes
set_option linter.unusedVariables false
set_option linter.unusedSimpArgs false
theorem shapeN {H : Type} {enc : TypeId × Value → H} {W : World} {base : Nat} {held : Bool} : ∀ n cs y, DataW.trod enc Try.prog W base (fun _ => true) held n 43 cs = some y → ∃ q : Qn, cs = nc q := by
  intro n cs y h
  have c3 : Try.prog.cellsOf 3 = 1 := by kernel_rfl
  have c43 : Try.prog.cellsOf 43 = 4 := by kernel_rfl
  obtain ⟨z0, z1, z2, z3, n2, _, hl, g0, g1, g2, g3⟩ := Go.Joins.trod_struct4 Try.underlying43 h
  obtain ⟨m0, e0, _, w0⟩ := DataW.trod_int Try.underlying3 g0
  obtain ⟨m1, e1, _, w1⟩ := DataW.trod_int Try.underlying3 g1
  obtain ⟨m2, e2, _, w2⟩ := DataW.trod_int Try.underlying3 g2
  obtain ⟨m3, e3, _, w3⟩ := DataW.trod_int Try.underlying3 g3
  rw [c43] at hl
  match cs, hl with
  | [v0, v1, v2, v3], _ =>
    simp [c3] at e0 e1 e2 e3
    subst e0; subst e1; subst e2; subst e3
    exact ⟨(m0, m1, m2, m3), rfl⟩
theorem openN {H : Type} {enc : TypeId × Value → H} {W : World} {b0 base : Nat} {held : Bool} {v : Value} {d : DataW H} {p : List MemPlace} (hv : Value.okWide Try.prog W .any b0 43 v) (h : DataW.Trod enc Try.prog W base (fun _ => true) held 43 v d p) :
    ∃ x : Qn, v = .agg (nc x).toArray ∧ True := by
  obtain ⟨cs, rfl, hsz⟩ := okWide_struct Try.underlying43 hv
  obtain ⟨l⟩ := cs
  obtain ⟨fuel, hf⟩ := h
  obtain ⟨q, hq⟩ := shapeN _ _ _ hf
  have hq : l = nc q := hq
  subst hq
  exact ⟨q, rfl, trivial⟩
/-- A pipe of numbers. -/
def kp (zz ss aa kk ff : Int) (L : List (Int × Int)) : Pp := (L, psize zz ss, wn ss 1 12, wn aa 1 4, wn kk (-1) 1, wn ff (-1) 1)
theorem psize_bd (z s : Int) : 1 ≤ psize z s ∧ psize z s ≤ 48 ∧ wn s 1 12 ≤ psize z s := by
  have bs := wn_bd s 1 12 (by omega)
  have e4 : IntKind.i64.wrap (4 * wn s 1 12) = 4 * wn s 1 12 := by rw [IntKind.wrap_i64]; omega
  have bz := wn_bd z (wn s 1 12) (4 * wn s 1 12) (by omega)
  unfold psize; rw [e4]; omega
theorem kp_ok (zz ss aa kk ff : Int) (L : List (Int × Int)) (h1 : L.length ≤ 4) (h2 : L.all rtb = true) : pir (kp zz ss aa kk ff L) = true ∧ ∀ n ∈ pl (kp zz ss aa kk ff L), rng n := by
  refine ⟨pip_ok h1 (rtb_all h2) (plc_wn kk) (plc_wn ff), pl_rng' (fun o ho => ?_) (by show L.length ≤ _; omega) ?_ ?_ ?_ ?_ ?_⟩
  · have := rtb_bd h2 o ho
    exact ⟨rngk (by omega) (by omega), rngk (by omega) (by omega)⟩
  · have := psize_bd zz ss; exact rngk (by show _ ≤ psize zz ss; omega) (by show psize zz ss ≤ _; omega)
  · have := wn_bd ss 1 12 (by omega); exact rngk (by show _ ≤ wn ss 1 12; omega) (by show wn ss 1 12 ≤ _; omega)
  · have := wn_bd aa 1 4 (by omega); exact rngk (by show _ ≤ wn aa 1 4; omega) (by show wn aa 1 4 ≤ _; omega)
  · have := wn_bd kk (-1) 1 (by omega); exact rngk (by show _ ≤ wn kk (-1) 1; omega) (by show wn kk (-1) 1 ≤ _; omega)
  · have := wn_bd ff (-1) 1 (by omega); exact rngk (by show _ ≤ wn ff (-1) 1; omega) (by show wn ff (-1) 1 ≤ _; omega)
/-- An act's numbers. -/
def tl (x : Ac) : List Int := if x.1 == 3 then [x.1] else if x.1 == 1 then [x.1, x.2.1] ++ pl x.2.2.2.2.1 else if x.2.2.2.2.2.1 then [x.1, x.2.1, 1, x.2.2.2.2.2.2.1] else [x.1, x.2.1, 0, x.2.2.2.2.2.2.1, x.2.2.2.2.2.2.2.1, x.2.2.2.2.2.2.2.2.1]
theorem encA_tl (x : Ac) (h : keptF x = true) : encA x = puts (tl x) := by
  obtain ⟨k, t, f, n, p, m, tm, ky, vl, lb⟩ := x
  unfold encA
  rw [h, if_pos rfl]
  by_cases h3 : k = 3
  · subst h3; rfl
  · by_cases h1 : k = 1
    · subst h1
      have hp : pir p = true := by
        have : keptF (1, t, f, n, p, m, tm, ky, vl, lb) = (thr t && pir p) := rfl
        rw [this, Bool.and_eq_true] at h; exact h.2
      have he : encb p = puts (pl p) := by unfold encb; rw [hp]; rfl
      show puts [1, t] ++ encb p = puts ([1, t] ++ pl p)
      rw [he, puts_app]
    · have e1 : (k == 1) = false := by simpa using h1
      have e3 : (k == 3) = false := by simpa using h3
      unfold tl
      simp only [e1, e3, Bool.false_eq_true, if_false]
      cases m <;> rfl
theorem tl_rng (x : Ac) (h : wfA x) : ∀ n ∈ tl x, rng n := by
  obtain ⟨w1, w2, w3, w4, w5, w6, w7⟩ := h
  have r0 : rng 0 := rngk (by decide) (by decide)
  have r1 : rng 1 := rngk (by decide) (by decide)
  unfold tl
  split
  · exact rngc w1 rng0
  · split
    · intro n hn
      rcases List.mem_append.1 hn with hn | hn
      · exact rngc w1 (rngc w2 rng0) n hn
      · exact w3 n hn
    · split
      · exact rngc w1 (rngc w2 (rngc r1 (rngc w5 rng0)))
      · exact rngc w1 (rngc w2 (rngc r0 (rngc w5 (rngc w6 (rngc w7 rng0)))))
theorem encA_inj (x y : Ac) (hx : keptF x = true) (hy : keptF y = true) (wx : wfA x) (wy : wfA y) : encA x = encA y ↔ tl x = tl y := by
  rw [encA_tl x hx, encA_tl y hy]
  exact ⟨fun h => puts_inj _ _ (tl_rng x wx) (tl_rng y wy) h, fun h => by rw [h]⟩
theorem enc0 : (enc 9 (zz 0)).length = 1 := by decide +kernel
theorem enc1 : (enc 9 (zz 1)).length = 1 := by decide +kernel
theorem puts_c (n : Int) (l : List Int) : (puts (n :: l)).length = (enc 9 (zz n)).length + (puts l).length := by
  have : puts (n :: l) = enc 9 (zz n) ++ puts l := rfl
  rw [this, List.length_append]
def ae (r : Rt) : List Value := av r.1 r.2.1 r.2.2
theorem ae_len (r : Rt) : (ae r).length = 15 := rfl
theorem ae_one (r : Rt) : ∀ v ∈ ae r, v.oneCell' = true := by
  intro v hv
  simp [ae, av, pv, ic] at hv
  rcases hv with rfl | rfl | rfl | rfl | rfl | rfl | rfl | rfl | rfl | rfl | rfl | rfl | rfl | rfl | rfl <;> rfl
def setT (b : Int) (x : Ac) : Ac := (x.1, b, x.2.2)
theorem thr_ok {a : Int} (h : 0 ≤ a ∧ a ≤ 7) : thr a = true := by
  unfold thr; rw [decide_eq_true (by omega : a ≥ 0), decide_eq_true (by omega : a < 8)]; rfl
/-- The four acts. -/
def four (a : Int) (T K V lb : Int) (ya : Option Addr) (yc : Nat) (p : Pp) : List Rt := [(none, 0, xt), (none, 0, (2, a, 0, 0, p0, (false, T, K, V, lb))), (none, 0, (2, a, 0, 0, p0, (true, T, 0, 0, 0))), (ya, yc, (1, a, 0, 0, p, z0))]
theorem four_ok (a b : Int) (ha : 0 ≤ a ∧ a ≤ 7) (hb : 0 ≤ b ∧ b ≤ 7) (T K V lb : Int) (ya : Option Addr) (yc : Nat) (p : Pp) (hT : rng T) (hK : rng K) (hV : rng V) (hp : pir p = true) (hpr : ∀ n ∈ pl p, rng n) (hpl : p.1.length ≤ 1000000) :
    ∀ i (h : i < (four a T K V lb ya yc p).length), keptF ((four a T K V lb ya yc p)[i]).2.2 = true ∧ wfA ((four a T K V lb ya yc p)[i]).2.2 ∧ keptF (setT b ((four a T K V lb ya yc p)[i]).2.2) = true ∧ wfA (setT b ((four a T K V lb ya yc p)[i]).2.2) ∧
      (tl (setT b ((four a T K V lb ya yc p)[i]).2.2) = tl ((four a T K V lb ya yc p)[i]).2.2 ↔ (a = b ∨ ((four a T K V lb ya yc p)[i]).2.2.1 = 3)) := by
  have r0 : rng 0 := rngk (by decide) (by decide)
  have r1 : rng 1 := rngk (by decide) (by decide)
  have r2 : rng 2 := rngk (by decide) (by decide)
  have r3 : rng 3 := rngk (by decide) (by decide)
  have ra : rng a := rngk (by omega) (by omega)
  have rb : rng b := rngk (by omega) (by omega)
  have ta := thr_ok ha
  have tb := thr_ok hb
  intro i h
  have h : i < 4 := h
  have hz : p0.1.length ≤ 1000000 := by decide
  match i, h with
  | 0, _ => exact ⟨rfl, wf_xt, rfl, ⟨r3, rb, pl0, hz, r0, r0, r0⟩, ⟨fun _ => .inr rfl, fun _ => rfl⟩⟩
  | 1, _ => exact ⟨ta, ⟨r2, ra, pl0, hz, hT, hK, hV⟩, tb, ⟨r2, rb, pl0, hz, hT, hK, hV⟩, by simp [four, tl, setT]; exact ⟨fun h => h.symm, fun h => h.symm⟩⟩
  | 2, _ => exact ⟨ta, ⟨r2, ra, pl0, hz, hT, r0, r0⟩, tb, ⟨r2, rb, pl0, hz, hT, r0, r0⟩, by simp [four, tl, setT]; exact ⟨fun h => h.symm, fun h => h.symm⟩⟩
  | 3, _ => exact ⟨by show (thr a && pir p) = true; rw [ta, hp]; rfl, ⟨r1, ra, hpr, hpl, r0, r0, r0⟩, by show (thr b && pir p) = true; rw [tb, hp]; rfl, ⟨r1, rb, hpr, hpl, r0, r0, r0⟩, by simp [four, tl, setT]; exact ⟨fun h => h.symm, fun h => h.symm⟩⟩
theorem four_ne (a : Int) (T K V lb : Int) (ya : Option Addr) (yc : Nat) (p : Pp) :
    ∀ i j (h : i < (four a T K V lb ya yc p).length) (h' : j < (four a T K V lb ya yc p).length), i ≠ j → tl ((four a T K V lb ya yc p)[i]).2.2 ≠ tl ((four a T K V lb ya yc p)[j]).2.2 := by
  have hpl := pl_len p
  intro i j h h' hij he
  have h : i < 4 := h
  have h' : j < 4 := h'
  have e0 : tl xt = [3] := rfl
  match i, h, j, h' with
  | 0, _, 0, _ => exact hij rfl
  | 1, _, 1, _ => exact hij rfl
  | 2, _, 2, _ => exact hij rfl
  | 3, _, 3, _ => exact hij rfl
  | 0, _, 1, _ => simp [four, tl] at he
  | 0, _, 2, _ => simp [four, tl] at he
  | 0, _, 3, _ => simp [four, tl] at he
  | 1, _, 0, _ => simp [four, tl] at he
  | 1, _, 2, _ => simp [four, tl] at he
  | 1, _, 3, _ => simp [four, tl] at he
  | 2, _, 0, _ => simp [four, tl] at he
  | 2, _, 1, _ => simp [four, tl] at he
  | 2, _, 3, _ => simp [four, tl] at he
  | 3, _, 0, _ => simp [four, tl] at he
  | 3, _, 1, _ => simp [four, tl] at he
  | 3, _, 2, _ => simp [four, tl] at he
theorem four_lt (a : Int) (ha : 0 ≤ a ∧ a ≤ 7) (T K V lb : Int) : (encA (2, a, 0, 0, p0, (true, T, 0, 0, 0))).length < (encA (2, a, 0, 0, p0, (false, T, K, V, lb))).length := by
  have ta := thr_ok ha
  have k1 : keptF (2, a, 0, 0, p0, (true, T, 0, 0, 0)) = true := ta
  have k2 : keptF (2, a, 0, 0, p0, (false, T, K, V, lb)) = true := ta
  rw [encA_tl _ k1, encA_tl _ k2]
  show (puts [2, a, 1, T]).length < (puts [2, a, 0, T, K, V]).length
  have h := puts_pos [K, V]
  simp only [List.length_cons, List.length_nil] at h
  rw [puts_c, puts_c, puts_c, puts_c T, puts_c 2, puts_c a, puts_c 0, puts_c T, enc0, enc1]
  have : (puts ([] : List Int)).length = 0 := rfl
  omega
end Go.Proofs.YtelholihncbfkaaS
