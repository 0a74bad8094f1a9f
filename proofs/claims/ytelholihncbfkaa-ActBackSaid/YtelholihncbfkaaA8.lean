import Derived.Test.YtelholihncbfkaaA7
namespace Go.Proofs.YtelholihncbfkaaS
open Go.RowKit
set_option linter.unusedVariables false
set_option linter.unusedSimpArgs false
theorem keptF_plA (x : Ac) : keptF (plA x) = keptF x := by
  obtain ⟨k, t, f, n, p, i⟩ := x
  unfold plA
  by_cases h1 : k = 1
  · subst h1; rfl
  · by_cases h2 : k = 2
    · subst h2; rfl
    · have e1 : (k == 1) = false := by simpa using h1
      have e2 : (k == 2) = false := by simpa using h2
      simp only [e1, e2, Bool.false_eq_true, if_false]
      unfold keptF
      simp only [e1, e2, Bool.false_eq_true, if_false]
theorem encA_plA (x : Ac) : encA (plA x) = encA x := by
  have hk := keptF_plA x
  obtain ⟨k, t, f, n, p, m, tm, ky, vl, lb⟩ := x
  unfold encA
  rw [hk]
  cases h : keptF (k, t, f, n, p, m, tm, ky, vl, lb) with
  | false => rfl
  | true =>
    by_cases h1 : k = 1
    · subst h1; rfl
    · by_cases h2 : k = 2
      · subst h2; cases m <;> rfl
      · by_cases h3 : k = 3
        · subst h3; rfl
        · have e1 : (k == 1) = false := by simpa using h1
          have e2 : (k == 2) = false := by simpa using h2
          have e3 : (k == 3) = false := by simpa using h3
          unfold keptF at h
          simp only [e1, e2, e3, Bool.false_eq_true, if_false] at h
theorem encA_ne (x : Ac) (h : keptF x = true) : 0 < (encA x).length := by
  unfold encA
  rw [h, if_pos rfl]
  have e : ∀ (n : Int) (l : List Int), 0 < (puts (n :: l)).length := fun n l => by
    have := puts_pos (n :: l); simp only [List.length_cons] at this; omega
  split
  · exact e _ _
  · split
    · rw [List.length_append]; have := e x.1 [x.2.1]; omega
    · split <;> exact e _ _
theorem encA_no (x : Ac) (h : keptF x = false) : encA x = [] := by unfold encA; rw [h]; rfl
theorem dec_act (x : Ac) (hx : keptF x = true) (hw : wfA x) (y : Rt × Bool) (h : adk (encA x) y) : y.2 = true ∧ y.1.2.2 = plA x ∧ y.1.2.2.2.2.2.2.1.1.length ≤ y.1.2.1 := by
  obtain ⟨r, h1, h2, h3, h4⟩ := h
  have e := rd_enc x hx hw r h1
  have he : encA r.2.2 = encA x := by rw [e, encA_plA]
  have hne : encA x ≠ [] := by
    have := encA_ne x hx
    intro h; rw [h] at this; simp at this
  rcases h4 with ⟨_, _, rfl⟩ | ⟨hn, _⟩
  · exact ⟨rfl, e, h3⟩
  · exact absurd ⟨hne, he⟩ hn
theorem dec_nil (y : Rt × Bool) (h : adk [] y) : y = ((none, 0, a0), false) := by
  obtain ⟨r, h1, h2, h3, h4⟩ := h
  rcases h4 with ⟨h, _⟩ | ⟨_, h⟩
  · exact absurd rfl h
  · exact h
abbrev x5 : Ac := (2, 1, 0, 0, p0, (true, 5, 0, 0, 0))
abbrev xt : Ac := (3, 0, 0, 0, p0, z0)
theorem wf_x5 : wfA x5 := ⟨rngk (by decide) (by decide), rngk (by decide) (by decide), pl0, by decide, rngk (by decide) (by decide), rngk (by decide) (by decide), rngk (by decide) (by decide)⟩
theorem wf_xt : wfA xt := ⟨rngk (by decide) (by decide), rngk (by decide) (by decide), pl0, by decide, rngk (by decide) (by decide), rngk (by decide) (by decide), rngk (by decide) (by decide)⟩
theorem enc_x5 : encA x5 = [4, 2, 2, 10] := by decide +kernel
theorem enc_xt : encA xt = [6] := by decide +kernel
set_option linter.unusedVariables false
set_option linter.unusedSimpArgs false
attribute [local irreducible] Ops Ex Spec T V QO OA Rn OS
set_option maxHeartbeats 8000000 in
theorem actruns : Spec Try.prog 3 [] 1 (X := Unit) (fun _ => .bool true) (fun _ => True) (fun _ => 1) := by
  have hb : ∀ x ∈ [(4 : Int), 2, 2, 10], 0 ≤ x ∧ x < 256 := by decide
  have ds1 : decide ([(6 : Int)] = [6]) = true := rfl
  have ds2 : decide ([(4 : Int), 2, 2, 10] = [4, 2, 2, 10]) = true := rfl
  have hk5 : keptF x5 = true := rfl
  refine spec_of Try.func3 rfl Try.ntmps3 rfl ?_
  repeat' (first | (refine ex_regk (id := 0) (ts := []) ?_; ((try (first | refine o_as (v := .bool _) (by decide) rfl ?_ | refine o_as (by decide) rfl ?_)) <;> (try (refine ops_nilk ?_; intro _)) <;> (try (skip)) <;> (try refine keep_nil ?_))) | (refine ex_regk (id := 1) (ts := [1]) ?_; ((try (refine o_build (by decide) rfl ?_)) <;> (try (refine o_build (cells := ic (true, 5, 0, 0, 0)) (by decide) rfl ?_)) <;> (try (refine o_build (cells := av none 0 x5) (by decide) rfl ?_)) <;> (try ((refine o_alloc_a (by decide) (fun bl1 => ?_)))) <;> (try (first | refine o_store_a rfl rfl rfl rfl rfl ?_ | refine o_store_oa rfl rfl rfl (Nat.succ_pos _) rfl (by assumption) ?_)) <;> (try (refine ops_nilk ?_; intro _)) <;> (try ((first | refine keep_cons (v := .pointer _) rfl ?_ | refine keep_cons (v := _) rfl ?_))) <;> (try refine keep_nil ?_))) | (refine ex_regk (id := 2) (ts := [1, 2, 3]) ?_; ((try ((refine o_buildSlice (cells := [(4 : Int), 2, 2, 10].flatMap (cw .u8)) (by decide) rfl rfl rfl (fun b8 => ?_)))) <;> (try ((refine o_callH (adecode _ _ [4, 2, 2, 10] _ _ rfl rfl (by decide) hb (by decide)) (by first | exact True.intro | (show _ < _; decide)) rfl rfl (fun y hy => ?_); obtain ⟨⟨ya, yc, x⟩, ok⟩ := y))) <;> (try (refine o_mv (v := _) (by decide) rfl ?_)) <;> (try (refine o_extract (v := .agg (List.toArray _)) (by decide) rfl rfl ?_)) <;> (try (refine o_extract (v := .bool _) (by decide) rfl rfl ?_)) <;> (try ((refine o_alloc_a (by decide) (fun bl2 => ?_)))) <;> (try (first | refine o_store_a rfl rfl rfl rfl rfl ?_ | refine o_store_oa rfl rfl rfl (Nat.succ_pos _) rfl (by assumption) ?_)) <;> (try (first | refine o_as (v := .bool _) (by decide) rfl ?_ | refine o_as (by decide) rfl ?_)) <;> (try (refine ops_nilk ?_; intro _)) <;> (try ((first | refine keep_cons (v := .pointer _) rfl ?_ | refine keep_cons (v := _) rfl ?_) <;> (first | refine keep_cons (v := .pointer _) rfl ?_ | refine keep_cons (v := _) rfl ?_) <;> (first | refine keep_cons (v := .bool _) rfl ?_ | refine keep_cons (v := _) rfl ?_))) <;> (try refine keep_nil ?_))) | refine ex_seq ?_ | refine ex_block ?_ | refine ex_ret ?_ | refine ex_skip ?_ | refine ex_exit ?_ | refine ex_cond_t rfl ?_ | refine ex_cond_f rfl ?_ | refine ex_cond_t (congrArg Value.bool (by assumption)) ?_ | refine ex_cond_f (congrArg Value.bool (by assumption)) ?_ | (refine ex_split rfl ?_ ?_ <;> intro hc))
  rw [← enc_x5] at hy
  obtain ⟨ho, hx, hc⟩ := dec_act x5 hk5 wf_x5 _ hy
  have ho : ok = true := ho
  have hx : x = x5 := hx
  subst ho; subst hx
  repeat' (first | (refine ex_regk (id := 3) (ts := [0]) ?_; ((try (refine o_build (cells := av none 0 xt) (by decide) rfl ?_)) <;> (try ((refine o_callH (aencode _ none 0 xt rfl wf_xt enc_xt) (by first | exact True.intro | (show _ < _; decide)) rfl rfl (fun e hle => ?_); obtain ⟨ea, ec⟩ := e))) <;> (try ((refine o_buildSlice (cells := [(6 : Int)].flatMap (cw .u8)) (by decide) rfl rfl rfl (fun b14 => ?_)))) <;> (try (refine o_callH (sameB _ _ _ [6] [6] _ _ _ _ rfl rfl rfl rfl (by decide) ds1) (by first | exact True.intro | (show _ < _; decide)) rfl rfl (fun _ _ => ?_))) <;> (try (first | refine o_mv (v := .bool _) (by decide) rfl ?_ | refine o_mv (by decide) rfl ?_)) <;> (try (first | refine g_no rfl (by decide) rfl (by decide) ?_ | refine g_undef rfl rfl (by decide) ?_ | (refine g_yes rfl (by decide) rfl ?_; (refine o_load_a (vs := av none 0 x5) (by decide) rfl rfl ?_)) | refine g_noF rfl (by decide) rfl (by assumption) (by decide) ?_ | (refine g_yesT rfl (by decide) rfl (by assumption) ?_; (refine o_load_a (vs := av none 0 x5) (by decide) rfl rfl ?_)) | ((refine g_split rfl (by decide) rfl (by decide) ?_ ?_ <;> intro hc); (refine o_load_a (vs := av none 0 x5) (by decide) rfl rfl ?_)))) <;> (try (first | refine g_no rfl (by decide) rfl (by decide) ?_ | refine g_undef rfl rfl (by decide) ?_ | (refine g_yes rfl (by decide) rfl ?_; ((refine o_callH (aencode _ none 0 x5 rfl wf_x5 enc_x5) (by first | exact True.intro | (show _ < _; decide)) rfl rfl (fun e hle => ?_); obtain ⟨ea, ec⟩ := e))) | refine g_noF rfl (by decide) rfl (by assumption) (by decide) ?_ | (refine g_yesT rfl (by decide) rfl (by assumption) ?_; ((refine o_callH (aencode _ none 0 x5 rfl wf_x5 enc_x5) (by first | exact True.intro | (show _ < _; decide)) rfl rfl (fun e hle => ?_); obtain ⟨ea, ec⟩ := e))) | ((refine g_split rfl (by decide) rfl (by decide) ?_ ?_ <;> intro hc); ((refine o_callH (aencode _ none 0 x5 rfl wf_x5 enc_x5) (by first | exact True.intro | (show _ < _; decide)) rfl rfl (fun e hle => ?_); obtain ⟨ea, ec⟩ := e))))) <;> (try (first | refine g_no rfl (by decide) rfl (by decide) ?_ | refine g_undef rfl rfl (by decide) ?_ | (refine g_yes rfl (by decide) rfl ?_; ((refine o_buildSlice (cells := [(4 : Int), 2, 2, 10].flatMap (cw .u8)) (by decide) rfl rfl rfl (fun b19 => ?_)))) | refine g_noF rfl (by decide) rfl (by assumption) (by decide) ?_ | (refine g_yesT rfl (by decide) rfl (by assumption) ?_; ((refine o_buildSlice (cells := [(4 : Int), 2, 2, 10].flatMap (cw .u8)) (by decide) rfl rfl rfl (fun b19 => ?_)))) | ((refine g_split rfl (by decide) rfl (by decide) ?_ ?_ <;> intro hc); ((refine o_buildSlice (cells := [(4 : Int), 2, 2, 10].flatMap (cw .u8)) (by decide) rfl rfl rfl (fun b19 => ?_)))))) <;> (try (first | refine g_no rfl (by decide) rfl (by decide) ?_ | refine g_undef rfl rfl (by decide) ?_ | (refine g_yes rfl (by decide) rfl ?_; (refine o_callH (sameB _ _ _ [4, 2, 2, 10] [4, 2, 2, 10] _ _ _ _ rfl rfl rfl rfl (by decide) ds2) (by first | exact True.intro | (show _ < _; decide)) rfl rfl (fun _ _ => ?_))) | refine g_noF rfl (by decide) rfl (by assumption) (by decide) ?_ | (refine g_yesT rfl (by decide) rfl (by assumption) ?_; (refine o_callH (sameB _ _ _ [4, 2, 2, 10] [4, 2, 2, 10] _ _ _ _ rfl rfl rfl rfl (by decide) ds2) (by first | exact True.intro | (show _ < _; decide)) rfl rfl (fun _ _ => ?_))) | ((refine g_split rfl (by decide) rfl (by decide) ?_ ?_ <;> intro hc); (refine o_callH (sameB _ _ _ [4, 2, 2, 10] [4, 2, 2, 10] _ _ _ _ rfl rfl rfl rfl (by decide) ds2) (by first | exact True.intro | (show _ < _; decide)) rfl rfl (fun _ _ => ?_))))) <;> (try (first | refine o_pick_t (v := .bool _) (by decide) rfl rfl ?_ | refine o_pick_f (v := .bool _) (by decide) rfl rfl ?_)) <;> (try (first | refine o_mv (v := .bool _) (by decide) rfl ?_ | refine o_mv (by decide) rfl ?_)) <;> (try (first | refine g_no rfl (by decide) rfl (by decide) ?_ | refine g_undef rfl rfl (by decide) ?_ | (refine g_yes rfl (by decide) rfl ?_; (first | refine o_mv (v := .bool _) (by decide) rfl ?_ | refine o_mv (by decide) rfl ?_)) | refine g_noF rfl (by decide) rfl (by assumption) (by decide) ?_ | (refine g_yesT rfl (by decide) rfl (by assumption) ?_; (first | refine o_mv (v := .bool _) (by decide) rfl ?_ | refine o_mv (by decide) rfl ?_)) | ((refine g_split rfl (by decide) rfl (by decide) ?_ ?_ <;> intro hc); (first | refine o_mv (v := .bool _) (by decide) rfl ?_ | refine o_mv (by decide) rfl ?_)))) <;> (try (first | refine o_pick_t (v := .bool _) (by decide) rfl rfl ?_ | refine o_pick_f (v := .bool _) (by decide) rfl rfl ?_)) <;> (try (first | refine o_mv (v := .bool _) (by decide) rfl ?_ | refine o_mv (by decide) rfl ?_)) <;> (try (first | refine g_no rfl (by decide) rfl (by decide) ?_ | refine g_undef rfl rfl (by decide) ?_ | (refine g_yes rfl (by decide) rfl ?_; (refine o_load_a (vs := av ya yc x5) (by decide) rfl rfl ?_)) | refine g_noF rfl (by decide) rfl (by assumption) (by decide) ?_ | (refine g_yesT rfl (by decide) rfl (by assumption) ?_; (refine o_load_a (vs := av ya yc x5) (by decide) rfl rfl ?_)) | ((refine g_split rfl (by decide) rfl (by decide) ?_ ?_ <;> intro hc); (refine o_load_a (vs := av ya yc x5) (by decide) rfl rfl ?_)))) <;> (try (first | refine g_no rfl (by decide) rfl (by decide) ?_ | refine g_undef rfl rfl (by decide) ?_ | (refine g_yes rfl (by decide) rfl ?_; (refine o_load_a (vs := av none 0 x5) (by decide) rfl rfl ?_)) | refine g_noF rfl (by decide) rfl (by assumption) (by decide) ?_ | (refine g_yesT rfl (by decide) rfl (by assumption) ?_; (refine o_load_a (vs := av none 0 x5) (by decide) rfl rfl ?_)) | ((refine g_split rfl (by decide) rfl (by decide) ?_ ?_ <;> intro hc); (refine o_load_a (vs := av none 0 x5) (by decide) rfl rfl ?_)))) <;> (try (first | refine g_no rfl (by decide) rfl (by decide) ?_ | refine g_undef rfl rfl (by decide) ?_ | (refine g_yes rfl (by decide) rfl ?_; (refine o_callH (sameA _ _ _ _ _ x5 x5 rfl rfl (by decide) (eqA_self _)) (by first | exact True.intro | (show _ < _; decide)) rfl rfl (fun _ _ => ?_))) | refine g_noF rfl (by decide) rfl (by assumption) (by decide) ?_ | (refine g_yesT rfl (by decide) rfl (by assumption) ?_; (refine o_callH (sameA _ _ _ _ _ x5 x5 rfl rfl (by decide) (eqA_self _)) (by first | exact True.intro | (show _ < _; decide)) rfl rfl (fun _ _ => ?_))) | ((refine g_split rfl (by decide) rfl (by decide) ?_ ?_ <;> intro hc); (refine o_callH (sameA _ _ _ _ _ x5 x5 rfl rfl (by decide) (eqA_self _)) (by first | exact True.intro | (show _ < _; decide)) rfl rfl (fun _ _ => ?_))))) <;> (try (first | refine o_pick_t (v := .bool _) (by decide) rfl rfl ?_ | refine o_pick_f (v := .bool _) (by decide) rfl rfl ?_)) <;> (try (first | refine o_as (v := .bool _) (by decide) rfl ?_ | refine o_as (by decide) rfl ?_)) <;> (try (refine ops_nilk ?_; intro _)) <;> (try ((first | refine keep_cons (v := .bool _) rfl ?_ | refine keep_cons (v := _) rfl ?_))) <;> (try refine keep_nil ?_))) | refine ex_seq ?_ | refine ex_block ?_ | refine ex_ret ?_ | refine ex_skip ?_ | refine ex_exit ?_ | refine ex_cond_t rfl ?_ | refine ex_cond_f rfl ?_ | refine ex_cond_t (congrArg Value.bool (by assumption)) ?_ | refine ex_cond_f (congrArg Value.bool (by assumption)) ?_ | (refine ex_split rfl ?_ ?_ <;> intro hc))
  exact fin (.inr rfl) () (resl1 rfl (rv_tmp rfl)) trivial (Ent.toOne _)
end Go.Proofs.YtelholihncbfkaaS
