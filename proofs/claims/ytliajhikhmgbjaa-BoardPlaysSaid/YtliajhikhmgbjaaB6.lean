import Derived.Test.YtliajhikhmgbjaaB5
namespace Go.Proofs.YtliajhikhmgbjaaS
open Go.RowKit
set_option linter.unusedVariables false
set_option linter.unusedSimpArgs false
def wn (a lo hi : Int) : Int := lo + (if a.tmod (hi - lo + 1) < 0 then a.tmod (hi - lo + 1) + hi - lo + 1 else a.tmod (hi - lo + 1))
theorem wn_bd (a lo hi : Int) (h : lo ≤ hi) : lo ≤ wn a lo hi ∧ wn a lo hi ≤ hi := by
  have h1 := Int.tmod_lt_of_pos a (b := hi - lo + 1) (by omega)
  have h2 := Int.lt_tmod_of_pos a (b := hi - lo + 1) (by omega)
  unfold wn
  generalize a.tmod (hi - lo + 1) = q at *
  split <;> omega
theorem bt_ne {k : Int} (h0 : 0 ≤ k) (h1 : k < 64) : bt k ≠ 0 := by
  obtain ⟨n, rfl⟩ : ∃ n : Nat, k = (n : Int) := ⟨_, (Int.toNat_of_nonneg h0).symm⟩
  have : ∀ n : Fin 64, bt (n.1 : Int) ≠ 0 := by decide
  exact this ⟨n, by omega⟩
theorem hs_on (m : BitVec 64) {k : Int} (h0 : 0 ≤ k) (h1 : k < 64) : hs (m ||| bt k) k = true := by
  have e : (m ||| bt k) &&& bt k = bt k := by
    apply BitVec.eq_of_getLsbD_eq
    intro i hi
    rw [BitVec.getLsbD_and, BitVec.getLsbD_or]
    cases m.getLsbD i <;> cases (bt k).getLsbD i <;> rfl
  unfold hs
  rw [e, decide_eq_false (bt_ne h0 h1)]; rfl
set_option linter.unusedVariables false
set_option linter.unusedSimpArgs false
attribute [local irreducible] Ops Ex Spec T V QO OA Rn OS
theorem ent_clL {H : HP} {b : Nat} {p : Bool} {l l' : List Value} {t : TypeId} {fr : Nat × Nat} {R : HP} [h : HasL H b p l t fr R] (hl : l = l') : Ent H (cl p b l' t fr * R) := by rw [h.eq, hl]; exact Ent.refl _
theorem within (a lo hi : Int) (h : lo ≤ hi) (hlo : -4611686018427387904 ≤ lo) (hhi : hi ≤ 4611686018427387904) (hd : hi - lo ≤ 4611686018427387904) : Spec Try.prog 11 [.int .i64 a, .int .i64 lo, .int .i64 hi] 1 (X := Unit) (fun _ => .int .i64 (wn a lo hi)) (fun _ => True) (fun _ => 1) := by
  have e1 : IntKind.i64.wrap (IntKind.i64.wrap (hi - lo) + 1) = hi - lo + 1 := by rw [IntKind.wrap_i64, IntKind.wrap_i64]; omega
  have h1 := Int.tmod_lt_of_pos a (b := hi - lo + 1) (by omega)
  have h2 := Int.lt_tmod_of_pos a (b := hi - lo + 1) (by omega)
  have hne : IntKind.i64.wrap (IntKind.i64.wrap (hi - lo) + 1) ≠ 0 := by omega
  refine spec_of Try.func11 rfl Try.ntmps11 rfl ?_
  repeat' (first | (refine ex_regk (id := 0) (ts := [0, 1, 2]) ?_; ((try (first | refine o_as (v := .int _ _) (by decide) rfl ?_ | refine o_as (by decide) rfl ?_)) <;> (try (refine ops_nilk ?_; intro _)) <;> (try ((first | refine keep_cons (v := .int _ _) rfl ?_ | refine keep_cons (v := _) rfl ?_) <;> (first | refine keep_cons (v := .int _ _) rfl ?_ | refine keep_cons (v := _) rfl ?_) <;> (first | refine keep_cons (v := .int _ _) rfl ?_ | refine keep_cons (v := _) rfl ?_))) <;> (try refine keep_nil ?_))) | (refine ex_regk (id := 1) (ts := [0, 1, 2]) ?_; ((try (first | refine o_mv (v := .int _ _) (by decide) rfl ?_ | refine o_mv (by decide) rfl ?_)) <;> (try (first | refine o_mv (v := .int _ _) (by decide) rfl ?_ | refine o_mv (by decide) rfl ?_)) <;> (try (first | refine o_mv (v := .int _ _) (by decide) rfl ?_ | refine o_mv (by decide) rfl ?_)) <;> (try (refine o_int (by decide) rfl rfl rfl ?_)) <;> (try (refine o_int (by decide) rfl rfl rfl ?_)) <;> (try (refine o_rem (by decide) rfl rfl (by first | decide | assumption | omega) ?_)) <;> (try (first | refine o_as (v := .int _ _) (by decide) rfl ?_ | refine o_as (by decide) rfl ?_)) <;> (try (refine ops_nilk ?_; intro _)) <;> (try ((first | refine keep_cons (v := .int _ _) rfl ?_ | refine keep_cons (v := _) rfl ?_) <;> (first | refine keep_cons (v := .int _ _) rfl ?_ | refine keep_cons (v := _) rfl ?_) <;> (first | refine keep_cons (v := .int _ _) rfl ?_ | refine keep_cons (v := _) rfl ?_))) <;> (try refine keep_nil ?_))) | (refine ex_regk (id := 2) (ts := [0, 1, 2, 14]) ?_; ((try (first | refine o_mv (v := .int _ _) (by decide) rfl ?_ | refine o_mv (by decide) rfl ?_)) <;> (try (refine o_int (by decide) rfl rfl rfl ?_)) <;> (try (refine ops_nilk ?_; intro _)) <;> (try ((first | refine keep_cons (v := .int _ _) rfl ?_ | refine keep_cons (v := _) rfl ?_) <;> (first | refine keep_cons (v := .int _ _) rfl ?_ | refine keep_cons (v := _) rfl ?_) <;> (first | refine keep_cons (v := .int _ _) rfl ?_ | refine keep_cons (v := _) rfl ?_) <;> (first | refine keep_cons (v := .bool _) rfl ?_ | refine keep_cons (v := _) rfl ?_))) <;> (try refine keep_nil ?_))) | (refine ex_regk (id := 3) (ts := [0, 1]) ?_; ((try (first | refine o_mv (v := .int _ _) (by decide) rfl ?_ | refine o_mv (by decide) rfl ?_)) <;> (try (first | refine o_mv (v := .int _ _) (by decide) rfl ?_ | refine o_mv (by decide) rfl ?_)) <;> (try (refine o_int (by decide) rfl rfl rfl ?_)) <;> (try (first | refine o_mv (v := .int _ _) (by decide) rfl ?_ | refine o_mv (by decide) rfl ?_)) <;> (try (refine o_int (by decide) rfl rfl rfl ?_)) <;> (try (refine o_int (by decide) rfl rfl rfl ?_)) <;> (try (first | refine o_as (v := .int _ _) (by decide) rfl ?_ | refine o_as (by decide) rfl ?_)) <;> (try (refine ops_nilk ?_; intro _)) <;> (try ((first | refine keep_cons (v := .int _ _) rfl ?_ | refine keep_cons (v := _) rfl ?_) <;> (first | refine keep_cons (v := .int _ _) rfl ?_ | refine keep_cons (v := _) rfl ?_))) <;> (try refine keep_nil ?_))) | (refine ex_regk (id := 4) (ts := [6]) ?_; ((try (first | refine o_mv (v := .int _ _) (by decide) rfl ?_ | refine o_mv (by decide) rfl ?_)) <;> (try (first | refine o_mv (v := .int _ _) (by decide) rfl ?_ | refine o_mv (by decide) rfl ?_)) <;> (try (refine o_int (by decide) rfl rfl rfl ?_)) <;> (try (first | refine o_as (v := .int _ _) (by decide) rfl ?_ | refine o_as (by decide) rfl ?_)) <;> (try (refine ops_nilk ?_; intro _)) <;> (try ((first | refine keep_cons (v := .int _ _) rfl ?_ | refine keep_cons (v := _) rfl ?_))) <;> (try refine keep_nil ?_))) | refine ex_seq ?_ | refine ex_block ?_ | refine ex_ret ?_ | refine ex_skip ?_ | refine ex_exit ?_ | refine ex_cond_t rfl ?_ | refine ex_cond_f rfl ?_ | refine ex_cond_t (congrArg Value.bool (by assumption)) ?_ | refine ex_cond_f (congrArg Value.bool (by assumption)) ?_ | (refine ex_split rfl ?_ ?_ <;> intro hc))
  all_goals
    rw [e1] at *
    refine fin (.inr rfl) () (resl1 rfl (rv_tmp (congrArg (Value.int .i64) ?_))) trivial (Ent.refl _)
    unfold wn
    generalize a.tmod (hi - lo + 1) = q at *
  · have hq : q < 0 := by simpa using hc
    rw [if_pos hq]
    simp only [IntKind.wrap_i64]
    omega
  · have hq : ¬ q < 0 := by simpa using hc
    rw [if_neg hq]
    simp only [IntKind.wrap_i64]
    omega
end Go.Proofs.YtliajhikhmgbjaaS
