import Derived.Test.YtelholihncbfkaaV3
namespace Go.Proofs.YtelholihncbfkaaS
open Go.RowKit
set_option linter.unusedVariables false
set_option linter.unusedSimpArgs false
theorem puts_cancel : ∀ (l m b : List Int), (∀ n ∈ l, rng n) → (∀ n ∈ m, rng n) → puts l ++ b = puts m → ∃ k, (∀ n ∈ k, rng n) ∧ b = puts k := by
  intro l
  induction l with
  | nil => intro m b _ hm h; exact ⟨m, hm, h⟩
  | cons x t ih =>
    intro m b hl hm h
    have e1 : puts (x :: t) = enc 9 (zz x) ++ puts t := rfl
    rw [e1, List.append_assoc] at h
    cases m with
    | nil =>
      have := enc_pos 9 (zz x)
      have h2 := congrArg List.length h
      rw [List.length_append, show (puts ([] : List Int)).length = 0 from rfl] at h2
      omega
    | cons y s =>
      have e2 : puts (y :: s) = enc 9 (zz y) ++ puts s := rfl
      rw [e2] at h
      obtain ⟨_, h2⟩ := enc_inj 9 (zz x) (zz y) _ _ (zz_lo x) (zz_lo y) (Int.lt_of_lt_of_le (zz_bnd (hl x (List.mem_cons_self ..))) b9_le) (Int.lt_of_lt_of_le (zz_bnd (hm y (List.mem_cons_self ..))) b9_le) h
      exact ih s b (fun n hn => hl n (List.mem_cons_of_mem _ hn)) (fun n hn => hm n (List.mem_cons_of_mem _ hn)) h2
/-- What Get hands back: where the row lies, its room, the row, is it one. -/
abbrev Gt : Type := Option Addr × Nat × List Int × Bool
def gok (b : List Int) (y : Gt) : Prop := (∀ n ∈ y.2.2.1, rng n) ∧ y.2.2.1.length ≤ y.2.1 ∧ ((y.2.2.2 = true ∧ b = puts y.2.2.1) ∨ (y.2.2.2 = false ∧ y.2.2.1 = [] ∧ ∀ l, (∀ n ∈ l, rng n) → b ≠ puts l))
theorem puts_one (l : List Int) (n : Int) : puts (l ++ [n]) = puts l ++ enc 9 (zz n) := by
  rw [puts_app]
  show _ ++ (enc 9 (zz n) ++ []) = _
  rw [List.append_nil]
set_option linter.unusedVariables false
set_option linter.unusedSimpArgs false
attribute [local irreducible] Ops Ex Spec T V QO OA Rn OS
set_option maxHeartbeats 4000000 in
theorem get_ (H : HP) (a : Option Addr) (b : List Int) (cap m : Nat) {cs : List Value} [hr : RdC H a cs] (hm : m = b.length) (hcs : cs = b.flatMap (cw .u8)) (hl : b.length ≤ 100000000) (hb : ∀ x ∈ b, 0 ≤ x ∧ x < 256) (hcap : b.length ≤ cap) :
    Spec Try.prog 35 [.slice a m cap] H (X := Gt) (fun y => .tuple #[.slice y.1 y.2.2.1.length y.2.1, .bool y.2.2.2]) (gok b) (fun y => ow 3 1 y.1 y.2.2.1.length y.2.1 (y.2.2.1.flatMap (cw .i64)) * H) := by
  subst hm; subst hcs
  refine spec_of Try.func35 rfl Try.ntmps35 rfl ?_
  repeat' (first | (refine ex_regk (id := 0) (ts := [0]) ?_; ((try (first | refine o_as (v := .slice _ _ _) (by decide) rfl ?_ | refine o_as (by decide) rfl ?_)) <;> (try (first | refine o_as (v := .bool _) (by decide) rfl ?_ | refine o_as (by decide) rfl ?_)) <;> (try (refine ops_nilk ?_; intro _)) <;> (try ((first | refine keep_cons (v := .slice _ _ _) rfl ?_ | refine keep_cons (v := _) rfl ?_))) <;> (try refine keep_nil ?_))) | (refine ex_regk (id := 1) (ts := [0, 4]) ?_; ((try (first | refine o_as (v := .slice _ _ _) (by decide) rfl ?_ | refine o_as (by decide) rfl ?_)) <;> (try (refine ops_nilk ?_; intro _)) <;> (try ((first | refine keep_cons (v := .slice _ _ _) rfl ?_ | refine keep_cons (v := _) rfl ?_) <;> (first | refine keep_cons (v := .slice _ _ _) rfl ?_ | refine keep_cons (v := _) rfl ?_))) <;> (try refine keep_nil ?_))) | refine ex_seq ?_ | refine ex_block ?_ | refine ex_ret ?_ | refine ex_skip ?_ | refine ex_exit ?_ | refine ex_cond_t rfl ?_ | refine ex_cond_f rfl ?_ | refine ex_cond_t (congrArg Value.bool (by assumption)) ?_ | refine ex_cond_f (congrArg Value.bool (by assumption)) ?_ | (refine ex_split rfl ?_ ?_ <;> intro hc))
  refine Ex.ent ?_ (Ent.ow_none 3 1 _)
  refine ex_loopE (fun mm e H' => ∃ g, ∃ b' : List Int, ∃ a' : Option Addr, ∃ c' : Nat, ∃ l : List Int, ∃ a4, ∃ c4, e = put (put g 0 (.slice a' b'.length c')) 4 (.slice a4 l.length c4) ∧ H' = ow 3 1 a4 l.length c4 (l.flatMap (cw .i64)) * H ∧
    (∀ H' [RdC H' a (b.flatMap (cw .u8))], RdC H' a' (b'.flatMap (cw .u8))) ∧ b = puts l ++ b' ∧ (∀ n ∈ l, rng n) ∧ l.length ≤ c4 ∧ b'.length ≤ c' ∧ b'.length = mm) (m := b.length) ⟨_, b, a, cap, [], none, 0, rfl, rfl, fun H' h => h, rfl, by simp, by simp, hcap, rfl⟩ ?_ ?_
  · exact Ent.ofEq rfl
  · rintro mm e H' ⟨g, b', a', c', l, a4, c4, rfl, rfl, hrd, hbl, hlr, hc4, hc', rfl⟩
    have hbb : b.length = (puts l).length + b'.length := by rw [hbl, List.length_append]
    have hpp := puts_pos l
    have hb2 : ∀ x ∈ b', 0 ≤ x ∧ x < 256 := fun x hx => hb x (by rw [hbl]; exact List.mem_append_right _ hx)
    have hrA := hrd H
    by_cases hne : b' = []
    · subst hne
      have hd : decide (((([] : List Int).length : Nat) : Int) > 0) = false := by decide
      repeat' (first | (refine ex_regk (id := 2) (ts := [0, 4, 9]) ?_; ((try (first | refine o_mv (v := .slice _ _ _) (by decide) rfl ?_ | refine o_mv (by decide) rfl ?_)) <;> (try (refine o_len (by decide) rfl rfl ?_)) <;> (try (refine o_int (by decide) rfl rfl rfl ?_)) <;> (try (refine ops_nilk ?_; intro _)) <;> (try ((first | refine keep_cons (v := .slice _ _ _) rfl ?_ | refine keep_cons (v := _) rfl ?_) <;> (first | refine keep_cons (v := .slice _ _ _) rfl ?_ | refine keep_cons (v := _) rfl ?_) <;> (first | refine keep_cons (v := .bool _) rfl ?_ | refine keep_cons (v := _) rfl ?_))) <;> (try refine keep_nil ?_))) | (refine ex_regk (id := 7) (ts := [2, 3]) ?_; ((try (first | refine o_mv (v := .slice _ _ _) (by decide) rfl ?_ | refine o_mv (by decide) rfl ?_)) <;> (try (first | refine o_as (v := .slice _ _ _) (by decide) rfl ?_ | refine o_as (by decide) rfl ?_)) <;> (try (first | refine o_as (v := .bool _) (by decide) rfl ?_ | refine o_as (by decide) rfl ?_)) <;> (try (refine ops_nilk ?_; intro _)) <;> (try ((first | refine keep_cons (v := .slice _ _ _) rfl ?_ | refine keep_cons (v := _) rfl ?_) <;> (first | refine keep_cons (v := .bool _) rfl ?_ | refine keep_cons (v := _) rfl ?_))) <;> (try refine keep_nil ?_))) | refine ex_seq ?_ | refine ex_block ?_ | refine ex_ret ?_ | refine ex_skip ?_ | refine ex_exit ?_ | refine ex_cond_t rfl ?_ | refine ex_cond_f rfl ?_ | refine ex_cond_t (congrArg Value.bool (by assumption)) ?_ | refine ex_cond_f (congrArg Value.bool (by assumption)) ?_ | (refine ex_split rfl ?_ ?_ <;> intro hc))
      rw [List.append_nil] at hbl
      exact fin (.inr rfl) (a4, c4, l, true) (resl2 rfl (rv_tmp rfl) (rv_tmp rfl)) ⟨hlr, hc4, .inl ⟨rfl, hbl⟩⟩ (Ent.refl _)
    · have hpos : 0 < b'.length := List.length_pos_iff.2 hne
      have hd : decide ((b'.length : Int) > 0) = true := decide_eq_true (by omega)
      rcases nr_inv b' hb2 with ⟨_, hnone, hz⟩ | ⟨h1, h2, h3, h4, h5⟩
      · have e16 : (((nr b').2 : Int) == 0) = true := by rw [hz]; rfl
        repeat' (first | (refine ex_regk (id := 2) (ts := [0, 4, 9]) ?_; ((try (first | refine o_mv (v := .slice _ _ _) (by decide) rfl ?_ | refine o_mv (by decide) rfl ?_)) <;> (try (refine o_len (by decide) rfl rfl ?_)) <;> (try (refine o_int (by decide) rfl rfl rfl ?_)) <;> (try (refine ops_nilk ?_; intro _)) <;> (try ((first | refine keep_cons (v := .slice _ _ _) rfl ?_ | refine keep_cons (v := _) rfl ?_) <;> (first | refine keep_cons (v := .slice _ _ _) rfl ?_ | refine keep_cons (v := _) rfl ?_) <;> (first | refine keep_cons (v := .bool _) rfl ?_ | refine keep_cons (v := _) rfl ?_))) <;> (try refine keep_nil ?_))) | (refine ex_regk (id := 3) (ts := [0, 4, 5, 6]) ?_; ((try (first | refine o_mv (v := .slice _ _ _) (by decide) rfl ?_ | refine o_mv (by decide) rfl ?_)) <;> (try (refine o_callH (next_ _ a' b' c' _ rfl rfl (by omega) hb2) (by first | exact True.intro | (show _ < _; decide)) rfl rfl (fun _ _ => ?_))) <;> (try (refine o_mv (v := _) (by decide) rfl ?_)) <;> (try (refine o_extract (v := .int _ _) (by decide) rfl rfl ?_)) <;> (try (refine o_extract (v := .int _ _) (by decide) rfl rfl ?_)) <;> (try (first | refine o_as (v := .int _ _) (by decide) rfl ?_ | refine o_as (by decide) rfl ?_)) <;> (try (first | refine o_as (v := .int _ _) (by decide) rfl ?_ | refine o_as (by decide) rfl ?_)) <;> (try (refine ops_nilk ?_; intro _)) <;> (try ((first | refine keep_cons (v := .slice _ _ _) rfl ?_ | refine keep_cons (v := _) rfl ?_) <;> (first | refine keep_cons (v := .slice _ _ _) rfl ?_ | refine keep_cons (v := _) rfl ?_) <;> (first | refine keep_cons (v := .int _ _) rfl ?_ | refine keep_cons (v := _) rfl ?_) <;> (first | refine keep_cons (v := .int _ _) rfl ?_ | refine keep_cons (v := _) rfl ?_))) <;> (try refine keep_nil ?_))) | (refine ex_regk (id := 4) (ts := [0, 4, 5, 6, 16]) ?_; ((try (first | refine o_mv (v := .int _ _) (by decide) rfl ?_ | refine o_mv (by decide) rfl ?_)) <;> (try ((refine o_int (by decide) rfl rfl rfl ?_; rw [e16]))) <;> (try (refine ops_nilk ?_; intro _)) <;> (try ((first | refine keep_cons (v := .slice _ _ _) rfl ?_ | refine keep_cons (v := _) rfl ?_) <;> (first | refine keep_cons (v := .slice _ _ _) rfl ?_ | refine keep_cons (v := _) rfl ?_) <;> (first | refine keep_cons (v := .int _ _) rfl ?_ | refine keep_cons (v := _) rfl ?_) <;> (first | refine keep_cons (v := .int _ _) rfl ?_ | refine keep_cons (v := _) rfl ?_) <;> (first | refine keep_cons (v := .bool _) rfl ?_ | refine keep_cons (v := _) rfl ?_))) <;> (try refine keep_nil ?_))) | (refine ex_regk (id := 5) (ts := [2, 3]) ?_; ((try (first | refine o_as (v := .slice _ _ _) (by decide) rfl ?_ | refine o_as (by decide) rfl ?_)) <;> (try (first | refine o_as (v := .bool _) (by decide) rfl ?_ | refine o_as (by decide) rfl ?_)) <;> (try (refine ops_nilk ?_; intro _)) <;> (try ((first | refine keep_cons (v := .slice _ _ _) rfl ?_ | refine keep_cons (v := _) rfl ?_) <;> (first | refine keep_cons (v := .bool _) rfl ?_ | refine keep_cons (v := _) rfl ?_))) <;> (try refine keep_nil ?_))) | refine ex_seq ?_ | refine ex_block ?_ | refine ex_ret ?_ | refine ex_skip ?_ | refine ex_exit ?_ | refine ex_cond_t rfl ?_ | refine ex_cond_f rfl ?_ | refine ex_cond_t (congrArg Value.bool (by assumption)) ?_ | refine ex_cond_f (congrArg Value.bool (by assumption)) ?_ | (refine ex_split rfl ?_ ?_ <;> intro hc))
        refine fin (.inr rfl) (none, 0, [], false) (resl2 rfl (rv_tmp rfl) (rv_tmp rfl)) ⟨by simp, by simp, .inr ⟨rfl, rfl, ?_⟩⟩ ?_
        · intro m hm he
          obtain ⟨k, hk, hb'⟩ := puts_cancel l m b' hlr hm (hbl ▸ he)
          exact nr_none b' hnone hne k hk hb'
        · exact (Ent.drop _ _).trans (Ent.ow_none 3 1 _)
      · have e16 : (((nr b').2 : Int) == 0) = false := by simp; omega
        generalize hk : (nr b').2 = k at *
        generalize hn : (nr b').1 = n at *
        have hal : l.length + 1 ≤ 100000001 := by omega
        repeat' (first | (refine ex_regk (id := 2) (ts := [0, 4, 9]) ?_; ((try (first | refine o_mv (v := .slice _ _ _) (by decide) rfl ?_ | refine o_mv (by decide) rfl ?_)) <;> (try (refine o_len (by decide) rfl rfl ?_)) <;> (try (refine o_int (by decide) rfl rfl rfl ?_)) <;> (try (refine ops_nilk ?_; intro _)) <;> (try ((first | refine keep_cons (v := .slice _ _ _) rfl ?_ | refine keep_cons (v := _) rfl ?_) <;> (first | refine keep_cons (v := .slice _ _ _) rfl ?_ | refine keep_cons (v := _) rfl ?_) <;> (first | refine keep_cons (v := .bool _) rfl ?_ | refine keep_cons (v := _) rfl ?_))) <;> (try refine keep_nil ?_))) | (refine ex_regk (id := 3) (ts := [0, 4, 5, 6]) ?_; ((try (first | refine o_mv (v := .slice _ _ _) (by decide) rfl ?_ | refine o_mv (by decide) rfl ?_)) <;> (try ((refine o_callH (next_ _ a' b' c' _ rfl rfl (by omega) hb2) (by first | exact True.intro | (show _ < _; decide)) rfl rfl (fun _ _ => ?_); rw [hk, hn]))) <;> (try (refine o_mv (v := _) (by decide) rfl ?_)) <;> (try (refine o_extract (v := .int _ _) (by decide) rfl rfl ?_)) <;> (try (refine o_extract (v := .int _ _) (by decide) rfl rfl ?_)) <;> (try (first | refine o_as (v := .int _ _) (by decide) rfl ?_ | refine o_as (by decide) rfl ?_)) <;> (try (first | refine o_as (v := .int _ _) (by decide) rfl ?_ | refine o_as (by decide) rfl ?_)) <;> (try (refine ops_nilk ?_; intro _)) <;> (try ((first | refine keep_cons (v := .slice _ _ _) rfl ?_ | refine keep_cons (v := _) rfl ?_) <;> (first | refine keep_cons (v := .slice _ _ _) rfl ?_ | refine keep_cons (v := _) rfl ?_) <;> (first | refine keep_cons (v := .int _ _) rfl ?_ | refine keep_cons (v := _) rfl ?_) <;> (first | refine keep_cons (v := .int _ _) rfl ?_ | refine keep_cons (v := _) rfl ?_))) <;> (try refine keep_nil ?_))) | (refine ex_regk (id := 4) (ts := [0, 4, 5, 6, 16]) ?_; ((try (first | refine o_mv (v := .int _ _) (by decide) rfl ?_ | refine o_mv (by decide) rfl ?_)) <;> (try ((refine o_int (by decide) rfl rfl rfl ?_; rw [e16]))) <;> (try (refine ops_nilk ?_; intro _)) <;> (try ((first | refine keep_cons (v := .slice _ _ _) rfl ?_ | refine keep_cons (v := _) rfl ?_) <;> (first | refine keep_cons (v := .slice _ _ _) rfl ?_ | refine keep_cons (v := _) rfl ?_) <;> (first | refine keep_cons (v := .int _ _) rfl ?_ | refine keep_cons (v := _) rfl ?_) <;> (first | refine keep_cons (v := .int _ _) rfl ?_ | refine keep_cons (v := _) rfl ?_) <;> (first | refine keep_cons (v := .bool _) rfl ?_ | refine keep_cons (v := _) rfl ?_))) <;> (try refine keep_nil ?_))) | (refine ex_anyk (id := 6) (ts := [0, 4]) (k := 9) rfl ?_; (refine os_butO (el := 3) (sz := 1) 4 rfl ?_); ((refine os_pre (v := ?_) 0 rfl (by kernel_rfl) (by kernel_rfl) (by kernel_rfl) rfl (by decide) ?_ ?_; rotate_left; (focus ((first | refine o_mv (v := .slice _ _ _) (by decide) rfl ?_ | refine o_mv (by decide) rfl ?_) <;> (refine os_look ?_ <;> first | exact Ent.refl _ | exact ent_take))); ((refine os_pre (v := ?_) 1 rfl (by kernel_rfl) (by kernel_rfl) (by kernel_rfl) rfl (by decide) ?_ ?_; rotate_left; (focus ((first | refine o_mv (v := .int _ _) (by decide) rfl ?_ | refine o_mv (by decide) rfl ?_) <;> (refine os_look ?_ <;> first | exact Ent.refl _ | exact ent_take))); ((refine os_pre (v := ?_) 4 rfl (by kernel_rfl) (by kernel_rfl) (by kernel_rfl) rfl (by decide) ?_ ?_; rotate_left; (focus ((first | refine o_mv (v := .slice _ _ _) (by decide) rfl ?_ | refine o_mv (by decide) rfl ?_) <;> (refine os_look ?_ <;> first | exact Ent.refl _ | exact ent_take))); ((refine os_pre (v := ?_) 5 rfl (by kernel_rfl) (by kernel_rfl) (by kernel_rfl) rfl (by decide) ?_ ?_; rotate_left; (focus ((first | refine o_mv (v := .int _ _) (by decide) rfl ?_ | refine o_mv (by decide) rfl ?_) <;> (refine os_look ?_ <;> first | exact Ent.refl _ | exact ent_take))); (((refine os_dropT 6 rfl (by kernel_rfl) (by kernel_rfl) (by kernel_rfl) (cells := cw .u8) (xs := b') (t := k) cw_len (by decide) rfl rfl rfl h2 hc' (fun a23 hr23 => ?_)); ((refine os_one 2 (by kernel_rfl) rfl ?_ <;> ((refine o_buildSlice (by decide) rfl rfl rfl (fun _ => ?_))) <;> (refine os_nil ?_) <;> ((refine os_one 3 (by kernel_rfl) rfl ?_ <;> (refine o_appendT (cells := cw .i64) (xs := l) (ys := [n]) cw_len cw_one (by decide) rfl rfl rfl rfl rfl (by simp only [List.length_cons, List.length_nil]; omega) (by simp only [maxLen, List.length_cons, List.length_nil]; omega) (fun a20 c20 hc20 => ?_)) <;> (refine os_nil ?_) <;> ((refine os_pre (v := ?_) 7 rfl (by kernel_rfl) (by kernel_rfl) (by kernel_rfl) rfl (by decide) ?_ ?_; rotate_left; (focus ((first | refine o_as (v := .slice _ _ _) (by decide) rfl ?_ | refine o_as (by decide) rfl ?_) <;> (refine os_look ?_ <;> first | exact Ent.refl _ | exact ent_take))); ((refine os_pre (v := ?_) 8 rfl (by kernel_rfl) (by kernel_rfl) (by kernel_rfl) rfl (by decide) ?_ ?_; rotate_left; (focus ((first | refine o_as (v := .slice _ _ _) (by decide) rfl ?_ | refine o_as (by decide) rfl ?_) <;> (refine os_look ?_ <;> first | exact Ent.refl _ | exact ent_take))); ((refine os_donek (by kernel_rfl) ?_; intro _; ((first | refine keep_cons (v := .slice _ _ _) rfl ?_ | refine keep_cons (v := _) rfl ?_) <;> (first | refine keep_cons (v := .slice _ _ _) rfl ?_ | refine keep_cons (v := _) rfl ?_)); (refine keep_nil ?_)))))))))))))))))))))) | refine ex_seq ?_ | refine ex_block ?_ | refine ex_ret ?_ | refine ex_skip ?_ | refine ex_exit ?_ | refine ex_cond_t rfl ?_ | refine ex_cond_f rfl ?_ | refine ex_cond_t (congrArg Value.bool (by assumption)) ?_ | refine ex_cond_f (congrArg Value.bool (by assumption)) ?_ | (refine ex_split rfl ?_ ?_ <;> intro hc))
        refine ⟨(b'.drop k).length, by rw [List.length_drop]; omega, _, ?_, _, b'.drop k, a23, c' - k, l ++ [n], a20, c20, rfl, rfl, ?_, ?_, ?_, hc20, ?_, rfl⟩
        · exact ent_take
        · intro H' h
          have := hrd H'
          exact hr23 H'
        · rw [puts_one, List.append_assoc, hbl]
          congr 1
        · intro x hx
          rcases List.mem_append.1 hx with hx | hx
          · exact hlr x hx
          · rw [List.mem_singleton.1 hx]; exact h3
        · rw [List.length_drop]; omega
end Go.Proofs.YtelholihncbfkaaS
