import Derived.Test.YthhgjnipmlodnaaT9
import Derived.Test.YthhgjnipmlodnaaSu
import Derived.Test.YthhgjnipmlodnaaSx
namespace Go.Proofs.YthhgjnipmlodnaaS
open Go.RowKit Go.ChangeShapes Go.WideShapes
set_option linter.unusedVariables false
set_option linter.unusedSimpArgs false
/-- A call: its kind, its number, where its records lie, these, their room. -/
abbrev Ak : Type := Int × Int × Option Addr × List Rr × Nat
def akc (q : Ak) : List Value := [.int .i64 q.1, .int .i64 q.2.1, .slice q.2.2.1 q.2.2.2.1.length q.2.2.2.2]
theorem akc_len (q : Ak) : (akc q).length = 3 := rfl
def abig : List Ak → HP
  | [] => 1
  | q :: L => (rs q.2.2.1 (q.2.2.2.1.flatMap rc1) * rrs q.2.2.2.1) * abig L
theorem abig_rd (L : List Ak) (i : Nat) (h : i < L.length) : RdC (abig L) L[i].2.2.1 (L[i].2.2.2.1.flatMap rc1) ∧ RA (abig L) L[i].2.2.2.1 := by
  induction L generalizing i with
  | nil => cases h
  | cons q L ih =>
    unfold abig
    cases i with
    | zero => exact ⟨⟨((rd_rs _ _).left _).left _⟩, ⟨fun r hr => ⟨((ra_rrs0 _ r hr).rd.right _).left _⟩⟩⟩
    | succ i =>
      have hi : i < L.length := by simpa using h
      obtain ⟨h1, h2⟩ := ih i hi
      exact ⟨⟨h1.rd.right _⟩, ⟨fun r hr => ⟨(h2.all r hr).rd.right _⟩⟩⟩
theorem list3 {α : Type} {l : List α} (h : l.length = 3) : ∃ a b c, l = [a, b, c] := by
  match l, h with
  | [a, b, c], _ => exact ⟨a, b, c, rfl⟩
def goodA (W : World) (q : Ak) : Prop := Fits W (rs q.2.2.1 (q.2.2.2.1.flatMap rc1)) ∧ (∀ r ∈ q.2.2.2.1, goodR W r) ∧ (-9223372036854775808 ≤ q.2.1 ∧ q.2.1 ≤ 9223372036854775807)
theorem shapeA {H : Type} {enc : TypeId × Value → H} {W : World} {base : Nat} {held : Bool} : ∀ n cs y, DataW.trod enc Try.prog W base (fun _ => true) held n 41 cs = some y → ∃ q : Ak, cs = akc q ∧ goodA W q := by
  intro n cs y h
  have c3 : Try.prog.cellsOf 3 = 1 := by kernel_rfl
  have c30 : Try.prog.cellsOf 30 = 1 := by kernel_rfl
  have c41 : Try.prog.cellsOf 41 = 3 := by kernel_rfl
  obtain ⟨xs, n, _, _, hl, hlen, hfl⟩ := DataW.trod_struct Try.underlying41 h
  obtain ⟨v0, v1, v2, rfl⟩ := list3 (show cs.length = 3 from hl.trans c41)
  obtain ⟨y0, y1, y2, rfl⟩ := list3 (show xs.length = 3 from hlen)
  have h0 := hfl 0 _ rfl
  have h1 := hfl 1 _ rfl
  have h2 := hfl 2 _ rfl
  simp only [List.getElem?_cons_zero, List.getElem?_cons_succ] at h0 h1 h2
  obtain ⟨m0, e0, _, _⟩ := DataW.trod_int Try.underlying3 h0
  obtain ⟨m1, e1, _, w1⟩ := DataW.trod_int Try.underlying3 h1
  have hw : -9223372036854775808 ≤ m1 ∧ m1 ≤ 9223372036854775807 := by
    unfold Lit.wf at w1
    rw [Bool.and_eq_true] at w1
    exact ⟨of_decide_eq_true w1.1, of_decide_eq_true w1.2⟩
  obtain ⟨a, l, c, e2, hf, hg, hc, _⟩ := slice_typed rc1_len (by decide) shapeR Try.underlying30 (by kernel_rfl) h2
  simp [c3, c30] at e0 e1 e2
  subst e0; subst e1; subst e2
  exact ⟨(m0, m1, a, l, c), rfl, hf, hg, hw⟩
theorem fits_abig {W : World} (L : List Ak) (h : ∀ q ∈ L, goodA W q) : Fits W (abig L) := by
  induction L with
  | nil => exact Fits.one W
  | cons r L ih =>
    have hr := h r (List.mem_cons_self ..)
    exact Fits.mul (Fits.mul hr.1 (fits_rrs _ hr.2.1)) (ih fun x hx => h x (List.mem_cons_of_mem _ hx))
theorem sub_flatL {α : Type} {cells : α → List Value} {sz : Nat} (h : ∀ x, (cells x).length = sz) (l : List α) (i : Nat) (hi : i < l.length) : sub (l.flatMap cells) (i * sz) sz = some (cells l[i]) := by
  have e := flat_sub h l i hi
  have hle : i * sz + sz ≤ (l.flatMap cells).length := by
    rw [flat_len h, ← Nat.succ_mul]; exact Nat.mul_le_mul_right _ hi
  unfold sub
  rw [if_pos hle, e]
/-- One record out of the owned ones. -/
theorem om_get (l : List Rr) (i : Nat) (h : i < l.length) : om l = ow 5 1 l[i].1 l[i].2.2.length l[i].2.1 (bw l[i].2.2) * om (l.eraseIdx i) := by
  induction l generalizing i with
  | nil => simp at h
  | cons r l ih =>
    cases i with
    | zero => rfl
    | succ i =>
      have h' : i < l.length := by simpa using h
      show _ * om l = ow 5 1 l[i].1 l[i].2.2.length l[i].2.1 (bw l[i].2.2) * (_ * om (l.eraseIdx i))
      rw [ih i h', sep_left_comm]
theorem om_set (l : List Rr) (i : Nat) (h : i < l.length) (r : Rr) : om (l.set i r) = ow 5 1 r.1 r.2.2.length r.2.1 (bw r.2.2) * om (l.eraseIdx i) := by
  have h2 := om_get (l.set i r) i (by simpa using h)
  rw [List.getElem_set_self] at h2
  rw [h2, List.eraseIdx_set_eq]
theorem rc1_set (l : List Rr) (i : Nat) (h : i < l.length) (r : Rr) (hr : rc1 r = rc1 l[i]) : (l.set i r).flatMap rc1 = l.flatMap rc1 := by
  induction l generalizing i with
  | nil => simp at h
  | cons q l ih =>
    cases i with
    | zero => simp only [List.set_cons_zero, List.flatMap_cons]; rw [hr]; rfl
    | succ i =>
      have h' : i < l.length := by simpa using h
      simp only [List.set_cons_succ, List.flatMap_cons]
      rw [ih i h' hr]
theorem bw_set (l : List Int) (i : Nat) (h : i < l.length) (x : Int) : spl (bw l) ((i : Int).toNat * 1) [.int .u8 x] = bw (l.set i x) := by
  rw [Int.toNat_natCast, Nat.mul_one]
  rw [spl_eq _ _ _ (by rw [flat_len cw_len]; simp; omega)]
  simp only [cw_ints, ints, List.map_set]
  rw [List.set_eq_take_append_cons_drop, if_pos (by simpa using h)]
  simp
/-- What a crash leaves, as the law reckons it. -/
theorem kept_go (k : Int) (l : List (List Int)) (n : Nat) (h : n < l.length) : keptN k (l.drop n) = if (l[n].length : Int) + 4 ≤ k then 1 + keptN (k - (l[n].length + 4)) (l.drop (n + 1)) else 0 := kept_step k l n h
/-- The law's own books agree with the tape. -/
structure SI (V T : List Rr) (va : Option Addr) (vc w : Nat) (lit : Bool) (fz fu : Int) (HV : HP) (N : Nat) : Prop where
  bT : bys T = bys V
  wl : w ≤ V.length
  vl : V.length ≤ 4 * N
  v9 : ∀ r ∈ V, r.2.2.length ≤ 9
  cp : V.length ≤ vc
  rd : RdC HV va (V.flatMap rc1)
  ra : RA HV V
  fl : (lit = true ∧ fz = fu ∧ 0 ≤ fu ∧ fu ≤ 9223372036854775807) ∨ (lit = false ∧ fu = -1)
theorem SI.more {V T va vc w lit fz fu HV N} (h : SI V T va vc w lit fz fu HV N) {M : Nat} (hm : N ≤ M) : SI V T va vc w lit fz fu HV M := ⟨h.bT, h.wl, by have := h.vl; omega, h.v9, h.cp, h.rd, h.ra, h.fl⟩
/-- What a call that may go does to the books of the fuse. -/
def fuN (off : Bool) (fu : Int) : Bool × Int := if off || decide (fu = 0) then (true, fu) else if fu > 0 then (false, fu - 1) else (false, fu)
theorem goes_fu {off lit : Bool} {fz fu : Int} (h : (lit = true ∧ fz = fu ∧ 0 ≤ fu ∧ fu ≤ 9223372036854775807) ∨ (lit = false ∧ fu = -1)) : ∃ f', gR off lit fz = (!(fuN off fu).1, (fuN off fu).1, f') ∧ ((lit = true ∧ f' = (fuN off fu).2 ∧ 0 ≤ (fuN off fu).2 ∧ (fuN off fu).2 ≤ 9223372036854775807) ∨ (lit = false ∧ (fuN off fu).2 = -1)) ∧ (lit = true → 0 ≤ fz ∧ fz ≤ 9223372036854775807) := by
  unfold gR fuN
  cases off with
  | true =>
    refine ⟨fz, rfl, ?_, fun hl => ?_⟩
    · rcases h with ⟨rfl, rfl, h1, h2⟩ | ⟨rfl, rfl⟩
      · exact .inl ⟨rfl, rfl, h1, h2⟩
      · exact .inr ⟨rfl, rfl⟩
    · rcases h with ⟨rfl, rfl, h1, h2⟩ | ⟨rfl, rfl⟩
      · exact ⟨h1, h2⟩
      · cases hl
  | false =>
    rcases h with ⟨rfl, rfl, h1, h2⟩ | ⟨rfl, rfl⟩
    · by_cases h0 : fz = 0
      · subst h0
        exact ⟨0, rfl, .inl ⟨rfl, rfl, by decide, by decide⟩, fun _ => ⟨h1, h2⟩⟩
      · have d0 : decide (fz = 0) = false := decide_eq_false h0
        have hg : fz > 0 := by omega
        refine ⟨fz - 1, ?_, .inl ⟨rfl, ?_, ?_, ?_⟩, fun _ => ⟨h1, h2⟩⟩
        all_goals simp only [d0, h0, hg, Bool.or_false, Bool.false_or, Bool.not_true, if_true, if_false, Bool.false_eq_true, decide_false, Bool.not_false]
        all_goals first | rfl | omega
    · exact ⟨fz, rfl, .inr ⟨rfl, rfl⟩, fun hl => by cases hl⟩
theorem put_sw {e : Env} {a b : Nat} {v w : Value} (h : a ≠ b) : put (put e a v) b w = put (put e b w) a v := by
  funext i
  show (bif i.beq b then w else bif i.beq a then v else e i) = bif i.beq a then v else bif i.beq b then w else e i
  cases h1 : i.beq a <;> cases h2 : i.beq b <;> try rfl
  exact absurd ((Nat.eq_of_beq_eq_true h1).symm.trans (Nat.eq_of_beq_eq_true h2)) h
theorem put63 {g : Env} {x0 x3 x4 x5 x6 x7 x8 x9 x10 v : Value} : put (put (put (put (put (put (put (put (put (put g 0 x0) 3 x3) 4 x4) 5 x5) 6 x6) 7 x7) 8 x8) 9 x9) 10 x10) 63 v = put (put (put (put (put (put (put (put (put (put g 63 v) 0 x0) 3 x3) 4 x4) 5 x5) 6 x6) 7 x7) 8 x8) 9 x9) 10 x10 := by
  rw [put_sw (a := 10) (b := 63) (by decide), put_sw (a := 9) (b := 63) (by decide), put_sw (a := 8) (b := 63) (by decide), put_sw (a := 7) (b := 63) (by decide), put_sw (a := 6) (b := 63) (by decide), put_sw (a := 5) (b := 63) (by decide), put_sw (a := 4) (b := 63) (by decide), put_sw (a := 3) (b := 63) (by decide), put_sw (a := 0) (b := 63) (by decide)]
theorem put49 {g : Env} {x0 x3 x4 x5 x6 x7 x8 x9 x10 v : Value} : put (put (put (put (put (put (put (put (put (put g 0 x0) 3 x3) 4 x4) 5 x5) 6 x6) 7 x7) 8 x8) 9 x9) 10 x10) 49 v = put (put (put (put (put (put (put (put (put (put g 49 v) 0 x0) 3 x3) 4 x4) 5 x5) 6 x6) 7 x7) 8 x8) 9 x9) 10 x10 := by
  rw [put_sw (a := 10) (b := 49) (by decide), put_sw (a := 9) (b := 49) (by decide), put_sw (a := 8) (b := 49) (by decide), put_sw (a := 7) (b := 49) (by decide), put_sw (a := 6) (b := 49) (by decide), put_sw (a := 5) (b := 49) (by decide), put_sw (a := 4) (b := 49) (by decide), put_sw (a := 3) (b := 49) (by decide), put_sw (a := 0) (b := 49) (by decide)]
theorem p7 {d : Nat} (h : Nat.blt 8 d = true) {g : Env} {x0 x3 x4 x5 x6 x7 x8 v : Value} : put (put (put (put (put (put (put (put g 0 x0) 3 x3) 4 x4) 5 x5) 6 x6) 7 x7) 8 x8) d v = put (put (put (put (put (put (put (put g d v) 0 x0) 3 x3) 4 x4) 5 x5) 6 x6) 7 x7) 8 x8 := by
  have h : 8 < d := by rwa [Nat.blt_eq] at h
  rw [put_sw (a := 8) (b := d) (by omega), put_sw (a := 7) (b := d) (by omega), put_sw (a := 6) (b := d) (by omega), put_sw (a := 5) (b := d) (by omega), put_sw (a := 4) (b := d) (by omega), put_sw (a := 3) (b := d) (by omega), put_sw (a := 0) (b := d) (by omega)]
end Go.Proofs.YthhgjnipmlodnaaS
