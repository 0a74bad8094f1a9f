import Derived.Test.YtgipdhehgkneeaaX7
namespace Go.Proofs.YtgipdhehgkneeaaS
open Go.RowKit Go.ChangeShapes Go.WideShapes
set_option linter.unusedVariables false
set_option linter.unusedSimpArgs false
theorem shr_U (x : BitVec 64) (k : Nat) (h : k ≤ 64) : (U x).fdiv (2 ^ min ((k : Int).toNat) IntKind.u64.bits) = U (x >>> k) := by
  unfold U
  have e : min ((k : Int).toNat) IntKind.u64.bits = k := by rw [Int.toNat_natCast]; exact Nat.min_eq_left h
  rw [e, BitVec.toNat_ushiftRight, Nat.shiftRight_eq_div_pow]
  have : (2 : Int) ^ k = ((2 ^ k : Nat) : Int) := by simp
  rw [this, Int.fdiv_eq_ediv_of_nonneg _ (Int.natCast_nonneg _)]
  simp
theorem shr_hs (m : BitVec 64) (I : Int) (h0 : 0 ≤ I) (h1 : I ≤ 7) : (bits .and .u64 ((U m).fdiv (2 ^ min I.toNat IntKind.u64.bits)) 1 == 1) = hs m I := by
  obtain ⟨k, rfl⟩ : ∃ k : Nat, I = (k : Int) := ⟨I.toNat, by omega⟩
  rw [shr_U m k (by omega), hs_get m k (by omega)]
  show (bits .and .u64 (U (m >>> k)) (U 1#64) == 1) = _
  rw [and_U]
  have e : U (m >>> k &&& 1#64) = ((m.toNat / 2 ^ k % 2 : Nat) : Int) := by
    unfold U
    rw [BitVec.toNat_and, BitVec.toNat_ushiftRight, Nat.shiftRight_eq_div_pow]
    have : (1#64).toNat = 1 := rfl
    rw [this, Nat.and_one_is_mod]
  rw [e]
  have hb : m.getLsbD k = decide (m.toNat / 2 ^ k % 2 = 1) := by
    show m.toNat.testBit k = _
    rw [Nat.testBit_eq_decide_div_mod_eq]
  rw [hb, Bool.eq_iff_iff, beq_iff_eq, decide_eq_true_eq]
  omega
theorem shapeS {H : Type} {enc : TypeId × Value → H} {W : World} {base : Nat} {held : Bool} : ∀ n cs y, DataW.trod enc Try.prog W base (fun _ => true) held n 24 cs = some y → ∃ s : Sk, cs = sc s ∧ True := by
  intro n cs y h
  have c3 : Try.prog.cellsOf 3 = 1 := by kernel_rfl
  have c22 : Try.prog.cellsOf 22 = 1 := by kernel_rfl
  have c42 : Try.prog.cellsOf 24 = 5 := by kernel_rfl
  obtain ⟨xs, n, _, _, hl, hlen, hfl⟩ := DataW.trod_struct Try.underlying24 h
  obtain ⟨v0, v1, v2, v3, v4, rfl⟩ := list5 (show cs.length = 5 from hl.trans c42)
  obtain ⟨y0, y1, y2, y3, y4, rfl⟩ := list5 (show xs.length = 5 from hlen)
  have h0 := hfl 0 _ rfl
  have h1 := hfl 1 _ rfl
  have h2 := hfl 2 _ rfl
  have h3 := hfl 3 _ rfl
  have h4 := hfl 4 _ rfl
  simp only [List.getElem?_cons_zero, List.getElem?_cons_succ] at h0 h1 h2 h3 h4
  obtain ⟨m0, e0, _, w0⟩ := DataW.trod_int Try.underlying22 h0
  obtain ⟨m1, e1, _, w1⟩ := DataW.trod_int Try.underlying22 h1
  obtain ⟨m2, e2, _, _⟩ := DataW.trod_int Try.underlying3 h2
  obtain ⟨m3, e3, _, _⟩ := DataW.trod_int Try.underlying3 h3
  obtain ⟨m4, e4, _, _⟩ := DataW.trod_int Try.underlying3 h4
  obtain ⟨b0, rfl⟩ := U_of w0
  obtain ⟨b1, rfl⟩ := U_of w1
  simp [c3, c22] at e0 e1 e2 e3 e4
  subst e0; subst e1; subst e2; subst e3; subst e4
  exact ⟨(b0, b1, m2, m3, m4), rfl, trivial⟩
theorem openR {H : Type} {enc : TypeId × Value → H} {W : World} {b0 base : Nat} {spare : Nat → Bool} {held : Bool} {v : Value} {d : DataW H} {p : List MemPlace} (hv : Value.okWide Try.prog W .any b0 33 v) (h : DataW.Trod enc Try.prog W base spare held 33 v d p) :
    ∃ r : Rw, v = .agg (rwc r).toArray ∧ True := by
  obtain ⟨cs, rfl, hsz⟩ := okWide_struct Try.underlying33 hv
  have c3 : Try.prog.cellsOf 3 = 1 := by kernel_rfl
  have c22 : Try.prog.cellsOf 22 = 1 := by kernel_rfl
  have c42 : Try.prog.cellsOf 33 = 5 := by kernel_rfl
  obtain ⟨l⟩ := cs
  obtain ⟨v0, v1, v2, v3, v4, rfl⟩ := list5 (show l.length = 5 from hsz.trans c42)
  obtain ⟨fuel, hf⟩ := h
  obtain ⟨xs, n, _, _, hl, hlen, hfl⟩ := DataW.trod_struct Try.underlying33 hf
  obtain ⟨y0, y1, y2, y3, y4, rfl⟩ := list5 (show xs.length = 5 from hlen)
  have h0 := hfl 0 _ rfl
  have h1 := hfl 1 _ rfl
  have h2 := hfl 2 _ rfl
  have h3 := hfl 3 _ rfl
  have h4 := hfl 4 _ rfl
  simp only [List.getElem?_cons_zero, List.getElem?_cons_succ] at h0 h1 h2 h3 h4
  obtain ⟨m0, e0, _, _⟩ := DataW.trod_int Try.underlying3 h0
  obtain ⟨m1, e1, _, _⟩ := DataW.trod_int Try.underlying3 h1
  obtain ⟨m2, e2, _, _⟩ := DataW.trod_int Try.underlying3 h2
  obtain ⟨m3, e3, _, _⟩ := DataW.trod_int Try.underlying3 h3
  obtain ⟨m4, e4, _, w4⟩ := DataW.trod_int Try.underlying22 h4
  obtain ⟨b4, rfl⟩ := U_of w4
  simp [Value.cells, c3, c22] at e0 e1 e2 e3 e4
  subst e0; subst e1; subst e2; subst e3; subst e4
  exact ⟨(m0, m1, m2, m3, b4), rfl, trivial⟩
theorem lt8 (x : BitVec 64) : decide (U x < 256) = bl x 255#64 := by
  rw [Bool.eq_iff_iff, decide_eq_true_eq, bl_iff]
  constructor
  · intro h i hi hx
    by_cases h8 : i < 8
    · exact low255 ⟨i, h8⟩
    · exfalso
      have : x.toNat.testBit i = false := by
        rw [Nat.testBit_eq_decide_div_mod_eq, Nat.div_eq_of_lt]
        · rfl
        · have h2 : 2 ^ 8 ≤ 2 ^ i := Nat.pow_le_pow_right (by omega) (by omega)
          unfold U at h; omega
      have hx' : x.toNat.testBit i = true := hx
      rw [this] at hx'; cases hx'
  · intro h
    have : x &&& 255#64 = x := by
      rw [bext]; intro i hi
      rw [BitVec.getLsbD_and]
      cases hx : x.getLsbD i with
      | false => rfl
      | true => rw [h i hi hx]; rfl
    unfold U
    have h2 : x.toNat ≤ 255 := by
      rw [← this, BitVec.toNat_and]
      exact Nat.and_le_right
    omega
theorem bl_or (x y z : BitVec 64) : bl (x ||| y) z = (bl x z && bl y z) := by
  rw [Bool.eq_iff_iff, Bool.and_eq_true, bl_iff, bl_iff, bl_iff]
  constructor
  · intro h
    exact ⟨fun i hi hx => h i hi (by rw [BitVec.getLsbD_or, hx]; rfl), fun i hi hx => h i hi (by rw [BitVec.getLsbD_or, hx, Bool.or_true])⟩
  · rintro ⟨h1, h2⟩ i hi hx
    rw [BitVec.getLsbD_or, Bool.or_eq_true] at hx
    rcases hx with hx | hx
    · exact h1 i hi hx
    · exact h2 i hi hx
set_option linter.unusedVariables false
set_option linter.unusedSimpArgs false
attribute [local irreducible] Ops Ex Spec T V QO OA Rn
set_option maxRecDepth 100000 in
set_option maxHeartbeats 4000000 in
theorem rightS (s : Sk) : Spec Try.prog 13 [.agg (sc s).toArray] 1 (X := Unit) (fun _ => .bool (rs1 s)) (fun _ => True) (fun _ => 1) := by
  obtain ⟨f, to, le, ag, ti⟩ := s
  have e0 : (U f != 0) = !decide (f = 0) := by rw [bne, ← U_zero, U_eq]
  have er : rs1 (f, to, le, ag, ti) = ((U f != 0) && (decide (U f < 256) && decide (U to < 256)) && rs2 (f, to, le, ag, ti)) := by
    rw [e0, lt8, lt8, ← bl_or]; rfl
  rw [er]
  refine spec_of Try.func13 rfl Try.ntmps13 rfl ?_
  repeat' (first | (refine ex_regk (id := 0) (ts := [1]) ?_; ((try ((refine o_box (by decide) (v := .agg (List.toArray _)) rfl rfl (fun _ => ?_)))) <;> (try (first | refine o_as (v := .bool _) (by decide) rfl ?_ | refine o_as (by decide) rfl ?_)) <;> (try (refine ops_nilk ?_; intro _)) <;> (try ((first | refine keep_cons (v := .pointer _) rfl ?_ | refine keep_cons (v := _) rfl ?_))) <;> (try refine keep_nil ?_))) | (refine ex_regk (id := 1) (ts := [2]) ?_; ((try (refine o_fieldAddr' (by decide) rfl ?_)) <;> (try (first | refine o_load_s (v := .int _ _) (by decide) rfl rfl ?_ | refine o_load_s (by decide) rfl rfl ?_ | refine o_load_r (by decide) rfl (by assumption) ?_ | refine o_load_r (v := .int _ _) (by decide) rfl rfl ?_)) <;> (try (refine o_int (by decide) rfl rfl rfl ?_)) <;> (try (first | refine o_mv (v := .bool _) (by decide) rfl ?_ | refine o_mv (by decide) rfl ?_)) <;> (try (first | refine g_no rfl (by decide) rfl (by decide) ?_ | refine g_undef rfl rfl (by decide) ?_ | (refine g_yes rfl (by decide) rfl ?_; (refine o_fieldAddr' (by decide) rfl ?_)) | refine g_noF rfl (by decide) rfl (by assumption) (by decide) ?_ | (refine g_yesT rfl (by decide) rfl (by assumption) ?_; (refine o_fieldAddr' (by decide) rfl ?_)) | ((refine g_split rfl (by decide) rfl (by decide) ?_ ?_ <;> intro hc); (refine o_fieldAddr' (by decide) rfl ?_)))) <;> (try (first | refine g_no rfl (by decide) rfl (by decide) ?_ | refine g_undef rfl rfl (by decide) ?_ | (refine g_yes rfl (by decide) rfl ?_; (first | refine o_load_s (v := .int _ _) (by decide) rfl rfl ?_ | refine o_load_s (by decide) rfl rfl ?_ | refine o_load_r (by decide) rfl (by assumption) ?_ | refine o_load_r (v := .int _ _) (by decide) rfl rfl ?_)) | refine g_noF rfl (by decide) rfl (by assumption) (by decide) ?_ | (refine g_yesT rfl (by decide) rfl (by assumption) ?_; (first | refine o_load_s (v := .int _ _) (by decide) rfl rfl ?_ | refine o_load_s (by decide) rfl rfl ?_ | refine o_load_r (by decide) rfl (by assumption) ?_ | refine o_load_r (v := .int _ _) (by decide) rfl rfl ?_)) | ((refine g_split rfl (by decide) rfl (by decide) ?_ ?_ <;> intro hc); (first | refine o_load_s (v := .int _ _) (by decide) rfl rfl ?_ | refine o_load_s (by decide) rfl rfl ?_ | refine o_load_r (by decide) rfl (by assumption) ?_ | refine o_load_r (v := .int _ _) (by decide) rfl rfl ?_)))) <;> (try (first | refine g_no rfl (by decide) rfl (by decide) ?_ | refine g_undef rfl rfl (by decide) ?_ | (refine g_yes rfl (by decide) rfl ?_; (refine o_int (by decide) rfl rfl rfl ?_)) | refine g_noF rfl (by decide) rfl (by assumption) (by decide) ?_ | (refine g_yesT rfl (by decide) rfl (by assumption) ?_; (refine o_int (by decide) rfl rfl rfl ?_)) | ((refine g_split rfl (by decide) rfl (by decide) ?_ ?_ <;> intro hc); (refine o_int (by decide) rfl rfl rfl ?_)))) <;> (try (first | refine o_pick_t (v := .bool _) (by decide) rfl rfl ?_ | refine o_pick_f (v := .bool _) (by decide) rfl rfl ?_)) <;> (try (first | refine o_mv (v := .bool _) (by decide) rfl ?_ | refine o_mv (by decide) rfl ?_)) <;> (try (first | refine g_no rfl (by decide) rfl (by decide) ?_ | refine g_undef rfl rfl (by decide) ?_ | (refine g_yes rfl (by decide) rfl ?_; (refine o_fieldAddr' (by decide) rfl ?_)) | refine g_noF rfl (by decide) rfl (by assumption) (by decide) ?_ | (refine g_yesT rfl (by decide) rfl (by assumption) ?_; (refine o_fieldAddr' (by decide) rfl ?_)) | ((refine g_split rfl (by decide) rfl (by decide) ?_ ?_ <;> intro hc); (refine o_fieldAddr' (by decide) rfl ?_)))) <;> (try (first | refine g_no rfl (by decide) rfl (by decide) ?_ | refine g_undef rfl rfl (by decide) ?_ | (refine g_yes rfl (by decide) rfl ?_; (first | refine o_load_s (v := .int _ _) (by decide) rfl rfl ?_ | refine o_load_s (by decide) rfl rfl ?_ | refine o_load_r (by decide) rfl (by assumption) ?_ | refine o_load_r (v := .int _ _) (by decide) rfl rfl ?_)) | refine g_noF rfl (by decide) rfl (by assumption) (by decide) ?_ | (refine g_yesT rfl (by decide) rfl (by assumption) ?_; (first | refine o_load_s (v := .int _ _) (by decide) rfl rfl ?_ | refine o_load_s (by decide) rfl rfl ?_ | refine o_load_r (by decide) rfl (by assumption) ?_ | refine o_load_r (v := .int _ _) (by decide) rfl rfl ?_)) | ((refine g_split rfl (by decide) rfl (by decide) ?_ ?_ <;> intro hc); (first | refine o_load_s (v := .int _ _) (by decide) rfl rfl ?_ | refine o_load_s (by decide) rfl rfl ?_ | refine o_load_r (by decide) rfl (by assumption) ?_ | refine o_load_r (v := .int _ _) (by decide) rfl rfl ?_)))) <;> (try (first | refine g_no rfl (by decide) rfl (by decide) ?_ | refine g_undef rfl rfl (by decide) ?_ | (refine g_yes rfl (by decide) rfl ?_; (refine o_int (by decide) rfl rfl rfl ?_)) | refine g_noF rfl (by decide) rfl (by assumption) (by decide) ?_ | (refine g_yesT rfl (by decide) rfl (by assumption) ?_; (refine o_int (by decide) rfl rfl rfl ?_)) | ((refine g_split rfl (by decide) rfl (by decide) ?_ ?_ <;> intro hc); (refine o_int (by decide) rfl rfl rfl ?_)))) <;> (try (first | refine o_pick_t (v := .bool _) (by decide) rfl rfl ?_ | refine o_pick_f (v := .bool _) (by decide) rfl rfl ?_)) <;> (try (first | refine o_mv (v := .bool _) (by decide) rfl ?_ | refine o_mv (by decide) rfl ?_)) <;> (try (first | refine g_no rfl (by decide) rfl (by decide) ?_ | refine g_undef rfl rfl (by decide) ?_ | (refine g_yes rfl (by decide) rfl ?_; (refine o_fieldAddr' (by decide) rfl ?_)) | refine g_noF rfl (by decide) rfl (by assumption) (by decide) ?_ | (refine g_yesT rfl (by decide) rfl (by assumption) ?_; (refine o_fieldAddr' (by decide) rfl ?_)) | ((refine g_split rfl (by decide) rfl (by decide) ?_ ?_ <;> intro hc); (refine o_fieldAddr' (by decide) rfl ?_)))) <;> (try (first | refine g_no rfl (by decide) rfl (by decide) ?_ | refine g_undef rfl rfl (by decide) ?_ | (refine g_yes rfl (by decide) rfl ?_; (first | refine o_load_s (v := .int _ _) (by decide) rfl rfl ?_ | refine o_load_s (by decide) rfl rfl ?_ | refine o_load_r (by decide) rfl (by assumption) ?_ | refine o_load_r (v := .int _ _) (by decide) rfl rfl ?_)) | refine g_noF rfl (by decide) rfl (by assumption) (by decide) ?_ | (refine g_yesT rfl (by decide) rfl (by assumption) ?_; (first | refine o_load_s (v := .int _ _) (by decide) rfl rfl ?_ | refine o_load_s (by decide) rfl rfl ?_ | refine o_load_r (by decide) rfl (by assumption) ?_ | refine o_load_r (v := .int _ _) (by decide) rfl rfl ?_)) | ((refine g_split rfl (by decide) rfl (by decide) ?_ ?_ <;> intro hc); (first | refine o_load_s (v := .int _ _) (by decide) rfl rfl ?_ | refine o_load_s (by decide) rfl rfl ?_ | refine o_load_r (by decide) rfl (by assumption) ?_ | refine o_load_r (v := .int _ _) (by decide) rfl rfl ?_)))) <;> (try (first | refine g_no rfl (by decide) rfl (by decide) ?_ | refine g_undef rfl rfl (by decide) ?_ | (refine g_yes rfl (by decide) rfl ?_; (refine o_int (by decide) rfl rfl rfl ?_)) | refine g_noF rfl (by decide) rfl (by assumption) (by decide) ?_ | (refine g_yesT rfl (by decide) rfl (by assumption) ?_; (refine o_int (by decide) rfl rfl rfl ?_)) | ((refine g_split rfl (by decide) rfl (by decide) ?_ ?_ <;> intro hc); (refine o_int (by decide) rfl rfl rfl ?_)))) <;> (try (first | refine o_pick_t (v := .bool _) (by decide) rfl rfl ?_ | refine o_pick_f (v := .bool _) (by decide) rfl rfl ?_)) <;> (try (first | refine o_mv (v := .bool _) (by decide) rfl ?_ | refine o_mv (by decide) rfl ?_)) <;> (try (first | refine g_no rfl (by decide) rfl (by decide) ?_ | refine g_undef rfl rfl (by decide) ?_ | (refine g_yes rfl (by decide) rfl ?_; (refine o_fieldAddr' (by decide) rfl ?_)) | refine g_noF rfl (by decide) rfl (by assumption) (by decide) ?_ | (refine g_yesT rfl (by decide) rfl (by assumption) ?_; (refine o_fieldAddr' (by decide) rfl ?_)) | ((refine g_split rfl (by decide) rfl (by decide) ?_ ?_ <;> intro hc); (refine o_fieldAddr' (by decide) rfl ?_)))) <;> (try (first | refine g_no rfl (by decide) rfl (by decide) ?_ | refine g_undef rfl rfl (by decide) ?_ | (refine g_yes rfl (by decide) rfl ?_; (first | refine o_load_s (v := .int _ _) (by decide) rfl rfl ?_ | refine o_load_s (by decide) rfl rfl ?_ | refine o_load_r (by decide) rfl (by assumption) ?_ | refine o_load_r (v := .int _ _) (by decide) rfl rfl ?_)) | refine g_noF rfl (by decide) rfl (by assumption) (by decide) ?_ | (refine g_yesT rfl (by decide) rfl (by assumption) ?_; (first | refine o_load_s (v := .int _ _) (by decide) rfl rfl ?_ | refine o_load_s (by decide) rfl rfl ?_ | refine o_load_r (by decide) rfl (by assumption) ?_ | refine o_load_r (v := .int _ _) (by decide) rfl rfl ?_)) | ((refine g_split rfl (by decide) rfl (by decide) ?_ ?_ <;> intro hc); (first | refine o_load_s (v := .int _ _) (by decide) rfl rfl ?_ | refine o_load_s (by decide) rfl rfl ?_ | refine o_load_r (by decide) rfl (by assumption) ?_ | refine o_load_r (v := .int _ _) (by decide) rfl rfl ?_)))) <;> (try (first | refine g_no rfl (by decide) rfl (by decide) ?_ | refine g_undef rfl rfl (by decide) ?_ | (refine g_yes rfl (by decide) rfl ?_; (refine o_int (by decide) rfl rfl rfl ?_)) | refine g_noF rfl (by decide) rfl (by assumption) (by decide) ?_ | (refine g_yesT rfl (by decide) rfl (by assumption) ?_; (refine o_int (by decide) rfl rfl rfl ?_)) | ((refine g_split rfl (by decide) rfl (by decide) ?_ ?_ <;> intro hc); (refine o_int (by decide) rfl rfl rfl ?_)))) <;> (try (first | refine o_pick_t (v := .bool _) (by decide) rfl rfl ?_ | refine o_pick_f (v := .bool _) (by decide) rfl rfl ?_)) <;> (try (first | refine o_mv (v := .bool _) (by decide) rfl ?_ | refine o_mv (by decide) rfl ?_)) <;> (try (first | refine g_no rfl (by decide) rfl (by decide) ?_ | refine g_undef rfl rfl (by decide) ?_ | (refine g_yes rfl (by decide) rfl ?_; (refine o_fieldAddr' (by decide) rfl ?_)) | refine g_noF rfl (by decide) rfl (by assumption) (by decide) ?_ | (refine g_yesT rfl (by decide) rfl (by assumption) ?_; (refine o_fieldAddr' (by decide) rfl ?_)) | ((refine g_split rfl (by decide) rfl (by decide) ?_ ?_ <;> intro hc); (refine o_fieldAddr' (by decide) rfl ?_)))) <;> (try (first | refine g_no rfl (by decide) rfl (by decide) ?_ | refine g_undef rfl rfl (by decide) ?_ | (refine g_yes rfl (by decide) rfl ?_; (first | refine o_load_s (v := .int _ _) (by decide) rfl rfl ?_ | refine o_load_s (by decide) rfl rfl ?_ | refine o_load_r (by decide) rfl (by assumption) ?_ | refine o_load_r (v := .int _ _) (by decide) rfl rfl ?_)) | refine g_noF rfl (by decide) rfl (by assumption) (by decide) ?_ | (refine g_yesT rfl (by decide) rfl (by assumption) ?_; (first | refine o_load_s (v := .int _ _) (by decide) rfl rfl ?_ | refine o_load_s (by decide) rfl rfl ?_ | refine o_load_r (by decide) rfl (by assumption) ?_ | refine o_load_r (v := .int _ _) (by decide) rfl rfl ?_)) | ((refine g_split rfl (by decide) rfl (by decide) ?_ ?_ <;> intro hc); (first | refine o_load_s (v := .int _ _) (by decide) rfl rfl ?_ | refine o_load_s (by decide) rfl rfl ?_ | refine o_load_r (by decide) rfl (by assumption) ?_ | refine o_load_r (v := .int _ _) (by decide) rfl rfl ?_)))) <;> (try (first | refine g_no rfl (by decide) rfl (by decide) ?_ | refine g_undef rfl rfl (by decide) ?_ | (refine g_yes rfl (by decide) rfl ?_; (refine o_int (by decide) rfl rfl rfl ?_)) | refine g_noF rfl (by decide) rfl (by assumption) (by decide) ?_ | (refine g_yesT rfl (by decide) rfl (by assumption) ?_; (refine o_int (by decide) rfl rfl rfl ?_)) | ((refine g_split rfl (by decide) rfl (by decide) ?_ ?_ <;> intro hc); (refine o_int (by decide) rfl rfl rfl ?_)))) <;> (try (first | refine o_pick_t (v := .bool _) (by decide) rfl rfl ?_ | refine o_pick_f (v := .bool _) (by decide) rfl rfl ?_)) <;> (try (first | refine o_mv (v := .bool _) (by decide) rfl ?_ | refine o_mv (by decide) rfl ?_)) <;> (try (first | refine g_no rfl (by decide) rfl (by decide) ?_ | refine g_undef rfl rfl (by decide) ?_ | (refine g_yes rfl (by decide) rfl ?_; (refine o_fieldAddr' (by decide) rfl ?_)) | refine g_noF rfl (by decide) rfl (by assumption) (by decide) ?_ | (refine g_yesT rfl (by decide) rfl (by assumption) ?_; (refine o_fieldAddr' (by decide) rfl ?_)) | ((refine g_split rfl (by decide) rfl (by decide) ?_ ?_ <;> intro hc); (refine o_fieldAddr' (by decide) rfl ?_)))) <;> (try (first | refine g_no rfl (by decide) rfl (by decide) ?_ | refine g_undef rfl rfl (by decide) ?_ | (refine g_yes rfl (by decide) rfl ?_; (first | refine o_load_s (v := .int _ _) (by decide) rfl rfl ?_ | refine o_load_s (by decide) rfl rfl ?_ | refine o_load_r (by decide) rfl (by assumption) ?_ | refine o_load_r (v := .int _ _) (by decide) rfl rfl ?_)) | refine g_noF rfl (by decide) rfl (by assumption) (by decide) ?_ | (refine g_yesT rfl (by decide) rfl (by assumption) ?_; (first | refine o_load_s (v := .int _ _) (by decide) rfl rfl ?_ | refine o_load_s (by decide) rfl rfl ?_ | refine o_load_r (by decide) rfl (by assumption) ?_ | refine o_load_r (v := .int _ _) (by decide) rfl rfl ?_)) | ((refine g_split rfl (by decide) rfl (by decide) ?_ ?_ <;> intro hc); (first | refine o_load_s (v := .int _ _) (by decide) rfl rfl ?_ | refine o_load_s (by decide) rfl rfl ?_ | refine o_load_r (by decide) rfl (by assumption) ?_ | refine o_load_r (v := .int _ _) (by decide) rfl rfl ?_)))) <;> (try (first | refine g_no rfl (by decide) rfl (by decide) ?_ | refine g_undef rfl rfl (by decide) ?_ | (refine g_yes rfl (by decide) rfl ?_; (refine o_int (by decide) rfl rfl rfl ?_)) | refine g_noF rfl (by decide) rfl (by assumption) (by decide) ?_ | (refine g_yesT rfl (by decide) rfl (by assumption) ?_; (refine o_int (by decide) rfl rfl rfl ?_)) | ((refine g_split rfl (by decide) rfl (by decide) ?_ ?_ <;> intro hc); (refine o_int (by decide) rfl rfl rfl ?_)))) <;> (try (first | refine o_pick_t (v := .bool _) (by decide) rfl rfl ?_ | refine o_pick_f (v := .bool _) (by decide) rfl rfl ?_)) <;> (try (first | refine o_mv (v := .bool _) (by decide) rfl ?_ | refine o_mv (by decide) rfl ?_)) <;> (try (first | refine g_no rfl (by decide) rfl (by decide) ?_ | refine g_undef rfl rfl (by decide) ?_ | (refine g_yes rfl (by decide) rfl ?_; (refine o_fieldAddr' (by decide) rfl ?_)) | refine g_noF rfl (by decide) rfl (by assumption) (by decide) ?_ | (refine g_yesT rfl (by decide) rfl (by assumption) ?_; (refine o_fieldAddr' (by decide) rfl ?_)) | ((refine g_split rfl (by decide) rfl (by decide) ?_ ?_ <;> intro hc); (refine o_fieldAddr' (by decide) rfl ?_)))) <;> (try (first | refine g_no rfl (by decide) rfl (by decide) ?_ | refine g_undef rfl rfl (by decide) ?_ | (refine g_yes rfl (by decide) rfl ?_; (first | refine o_load_s (v := .int _ _) (by decide) rfl rfl ?_ | refine o_load_s (by decide) rfl rfl ?_ | refine o_load_r (by decide) rfl (by assumption) ?_ | refine o_load_r (v := .int _ _) (by decide) rfl rfl ?_)) | refine g_noF rfl (by decide) rfl (by assumption) (by decide) ?_ | (refine g_yesT rfl (by decide) rfl (by assumption) ?_; (first | refine o_load_s (v := .int _ _) (by decide) rfl rfl ?_ | refine o_load_s (by decide) rfl rfl ?_ | refine o_load_r (by decide) rfl (by assumption) ?_ | refine o_load_r (v := .int _ _) (by decide) rfl rfl ?_)) | ((refine g_split rfl (by decide) rfl (by decide) ?_ ?_ <;> intro hc); (first | refine o_load_s (v := .int _ _) (by decide) rfl rfl ?_ | refine o_load_s (by decide) rfl rfl ?_ | refine o_load_r (by decide) rfl (by assumption) ?_ | refine o_load_r (v := .int _ _) (by decide) rfl rfl ?_)))) <;> (try (first | refine g_no rfl (by decide) rfl (by decide) ?_ | refine g_undef rfl rfl (by decide) ?_ | (refine g_yes rfl (by decide) rfl ?_; (refine o_int (by decide) rfl rfl rfl ?_)) | refine g_noF rfl (by decide) rfl (by assumption) (by decide) ?_ | (refine g_yesT rfl (by decide) rfl (by assumption) ?_; (refine o_int (by decide) rfl rfl rfl ?_)) | ((refine g_split rfl (by decide) rfl (by decide) ?_ ?_ <;> intro hc); (refine o_int (by decide) rfl rfl rfl ?_)))) <;> (try (first | refine o_pick_t (v := .bool _) (by decide) rfl rfl ?_ | refine o_pick_f (v := .bool _) (by decide) rfl rfl ?_)) <;> (try (first | refine o_mv (v := .bool _) (by decide) rfl ?_ | refine o_mv (by decide) rfl ?_)) <;> (try (first | refine g_no rfl (by decide) rfl (by decide) ?_ | refine g_undef rfl rfl (by decide) ?_ | (refine g_yes rfl (by decide) rfl ?_; (refine o_fieldAddr' (by decide) rfl ?_)) | refine g_noF rfl (by decide) rfl (by assumption) (by decide) ?_ | (refine g_yesT rfl (by decide) rfl (by assumption) ?_; (refine o_fieldAddr' (by decide) rfl ?_)) | ((refine g_split rfl (by decide) rfl (by decide) ?_ ?_ <;> intro hc); (refine o_fieldAddr' (by decide) rfl ?_)))) <;> (try (first | refine g_no rfl (by decide) rfl (by decide) ?_ | refine g_undef rfl rfl (by decide) ?_ | (refine g_yes rfl (by decide) rfl ?_; (first | refine o_load_s (v := .int _ _) (by decide) rfl rfl ?_ | refine o_load_s (by decide) rfl rfl ?_ | refine o_load_r (by decide) rfl (by assumption) ?_ | refine o_load_r (v := .int _ _) (by decide) rfl rfl ?_)) | refine g_noF rfl (by decide) rfl (by assumption) (by decide) ?_ | (refine g_yesT rfl (by decide) rfl (by assumption) ?_; (first | refine o_load_s (v := .int _ _) (by decide) rfl rfl ?_ | refine o_load_s (by decide) rfl rfl ?_ | refine o_load_r (by decide) rfl (by assumption) ?_ | refine o_load_r (v := .int _ _) (by decide) rfl rfl ?_)) | ((refine g_split rfl (by decide) rfl (by decide) ?_ ?_ <;> intro hc); (first | refine o_load_s (v := .int _ _) (by decide) rfl rfl ?_ | refine o_load_s (by decide) rfl rfl ?_ | refine o_load_r (by decide) rfl (by assumption) ?_ | refine o_load_r (v := .int _ _) (by decide) rfl rfl ?_)))) <;> (try (first | refine g_no rfl (by decide) rfl (by decide) ?_ | refine g_undef rfl rfl (by decide) ?_ | (refine g_yes rfl (by decide) rfl ?_; (refine o_int (by decide) rfl rfl rfl ?_)) | refine g_noF rfl (by decide) rfl (by assumption) (by decide) ?_ | (refine g_yesT rfl (by decide) rfl (by assumption) ?_; (refine o_int (by decide) rfl rfl rfl ?_)) | ((refine g_split rfl (by decide) rfl (by decide) ?_ ?_ <;> intro hc); (refine o_int (by decide) rfl rfl rfl ?_)))) <;> (try (first | refine o_pick_t (v := .bool _) (by decide) rfl rfl ?_ | refine o_pick_f (v := .bool _) (by decide) rfl rfl ?_)) <;> (try (first | refine o_as (v := .bool _) (by decide) rfl ?_ | refine o_as (by decide) rfl ?_)) <;> (try (refine ops_nilk ?_; intro _)) <;> (try ((first | refine keep_cons (v := .bool _) rfl ?_ | refine keep_cons (v := _) rfl ?_))) <;> (try refine keep_nil ?_))) | refine ex_seq ?_ | refine ex_block ?_ | refine ex_ret ?_ | refine ex_skip ?_ | refine ex_exit ?_ | refine ex_cond_t rfl ?_ | refine ex_cond_f rfl ?_ | refine ex_cond_t (congrArg Value.bool (by assumption)) ?_ | refine ex_cond_f (congrArg Value.bool (by assumption)) ?_ | (refine ex_split rfl ?_ ?_ <;> intro hc))
  all_goals exact fin (.inr rfl) () (resl1 rfl (rv_tmp (by show Value.bool _ = Value.bool _; congr 1; clear er e0; simp_all [rs2]; try omega))) trivial (Ent.toOne _)
end Go.Proofs.YtgipdhehgkneeaaS
