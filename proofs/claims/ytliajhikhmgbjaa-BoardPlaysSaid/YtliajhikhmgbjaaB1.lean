import Derived.Test.YtliajhikhmgbjaaTy
import Derived.Test.YtliajhikhmgbjaaB0
import Derived.Test.YtliajhikhmgbjaaTc
import Derived.Test.YtliajhikhmgbjaaTd
namespace Go.Proofs.YtliajhikhmgbjaaS
open Go.RowKit
set_option linter.unusedVariables false
set_option linter.unusedSimpArgs false
abbrev Rl : Type := Int × Int × Int × Bool
def lc (r : Rl) : List Value := [.int .i64 r.1, .int .i64 r.2.1, .int .i64 r.2.2.1, .bool r.2.2.2]
theorem lc_len (r : Rl) : (lc r).length = 4 := rfl
theorem lc_one (r : Rl) : ∀ v ∈ lc r, v.oneCell' = true := by intro v hv; simp [lc] at hv; rcases hv with rfl | rfl | rfl | rfl <;> rfl
/-- A row of releases: where, its room, what. -/
abbrev Br : Type := Option Addr × Nat × List Rl
def bcell (r : Br) : Value := .slice r.1 r.2.2.length r.2.1
def bow (r : Br) : HP := ow 25 4 r.1 r.2.2.length r.2.1 (r.2.2.flatMap lc)
def bm : List Br → HP
  | [] => 1
  | r :: l => bow r * bm l
theorem bm_get (l : List Br) (i : Nat) (h : i < l.length) : bm l = bow l[i] * bm (l.eraseIdx i) := by
  induction l generalizing i with
  | nil => simp at h
  | cons r l ih =>
    cases i with
    | zero => rfl
    | succ i =>
      have h' : i < l.length := by simpa using h
      show bow r * bm l = bow l[i] * (bow r * bm (l.eraseIdx i))
      rw [ih i h', sep_left_comm]
theorem bm_set (l : List Br) (i : Nat) (h : i < l.length) (r : Br) : bm (l.set i r) = bow r * bm (l.eraseIdx i) := by
  have h2 := bm_get (l.set i r) i (by simpa using h)
  rw [List.getElem_set_self] at h2
  rw [h2]
  congr 2
  exact List.eraseIdx_set_eq
set_option linter.unusedVariables false
set_option linter.unusedSimpArgs false
attribute [local irreducible] Ops Ex Spec T V QO OA Rn OS
theorem there (t : Int) : Spec Try.prog 17 [.int .i64 t] 1 (X := Unit) (fun _ => .bool (decide (t ≥ 0) && decide (t < 8))) (fun _ => True) (fun _ => 1) := by
  refine spec_of Try.func17 rfl Try.ntmps17 rfl ?_
  repeat' (first | (refine ex_regk (id := 0) (ts := [0]) ?_; ((try (first | refine o_as (v := .bool _) (by decide) rfl ?_ | refine o_as (by decide) rfl ?_)) <;> (try (refine ops_nilk ?_; intro _)) <;> (try ((first | refine keep_cons (v := .int _ _) rfl ?_ | refine keep_cons (v := _) rfl ?_))) <;> (try refine keep_nil ?_))) | (refine ex_regk (id := 1) (ts := [2]) ?_; ((try (first | refine o_mv (v := .int _ _) (by decide) rfl ?_ | refine o_mv (by decide) rfl ?_)) <;> (try (refine o_int (by decide) rfl rfl rfl ?_)) <;> (try (first | refine o_mv (v := .bool _) (by decide) rfl ?_ | refine o_mv (by decide) rfl ?_)) <;> (try (first | refine g_no rfl (by decide) rfl (by decide) ?_ | refine g_undef rfl rfl (by decide) ?_ | (refine g_yes rfl (by decide) rfl ?_; (first | refine o_mv (v := .int _ _) (by decide) rfl ?_ | refine o_mv (by decide) rfl ?_)) | refine g_noF rfl (by decide) rfl (by assumption) (by decide) ?_ | (refine g_yesT rfl (by decide) rfl (by assumption) ?_; (first | refine o_mv (v := .int _ _) (by decide) rfl ?_ | refine o_mv (by decide) rfl ?_)) | ((refine g_split rfl (by decide) rfl (by decide) ?_ ?_ <;> intro hc); (first | refine o_mv (v := .int _ _) (by decide) rfl ?_ | refine o_mv (by decide) rfl ?_)))) <;> (try (first | refine g_no rfl (by decide) rfl (by decide) ?_ | refine g_undef rfl rfl (by decide) ?_ | (refine g_yes rfl (by decide) rfl ?_; (refine o_int (by decide) rfl rfl rfl ?_)) | refine g_noF rfl (by decide) rfl (by assumption) (by decide) ?_ | (refine g_yesT rfl (by decide) rfl (by assumption) ?_; (refine o_int (by decide) rfl rfl rfl ?_)) | ((refine g_split rfl (by decide) rfl (by decide) ?_ ?_ <;> intro hc); (refine o_int (by decide) rfl rfl rfl ?_)))) <;> (try (first | refine o_pick_t (v := .bool _) (by decide) rfl rfl ?_ | refine o_pick_f (v := .bool _) (by decide) rfl rfl ?_)) <;> (try (first | refine o_as (v := .bool _) (by decide) rfl ?_ | refine o_as (by decide) rfl ?_)) <;> (try (refine ops_nilk ?_; intro _)) <;> (try ((first | refine keep_cons (v := .bool _) rfl ?_ | refine keep_cons (v := _) rfl ?_))) <;> (try refine keep_nil ?_))) | refine ex_seq ?_ | refine ex_block ?_ | refine ex_ret ?_ | refine ex_skip ?_ | refine ex_exit ?_ | refine ex_cond_t rfl ?_ | refine ex_cond_f rfl ?_ | refine ex_cond_t (congrArg Value.bool (by assumption)) ?_ | refine ex_cond_f (congrArg Value.bool (by assumption)) ?_ | (refine ex_split rfl ?_ ?_ <;> intro hc))
  all_goals exact fin (.inr rfl) () (resl1 rfl (rv_tmp (by simp only [*]; rfl))) trivial (Ent.refl _)
theorem count (b : Nat) (H : HP) (bs : List Br) (t : Int) (h8 : bs.length = 8) [hr : RdC H (some ⟨b, 0, none⟩) (bs.map bcell)] {m : Int} (hm : (if h : 0 ≤ t ∧ t < 8 then ((bs[t.toNat]'(by omega)).2.2.length : Int) else 0) = m) : Spec Try.prog 12 [.pointer (some ⟨b, 0, none⟩), .int .i64 t] H (X := Unit) (fun _ => .int .i64 m) (fun _ => True) (fun _ => H) := by
  by_cases h : 0 ≤ t ∧ t < 8
  · obtain ⟨i, rfl⟩ : ∃ i : Nat, t = (i : Int) := ⟨_, (Int.toNat_of_nonneg h.1).symm⟩
    rw [dif_pos h] at hm
    have hi : i < bs.length := by omega
    have d : (decide ((i : Int) ≥ 0) && decide ((i : Int) < 8)) = true := by rw [decide_eq_true (by omega : (i : Int) ≥ 0), decide_eq_true (by omega : (i : Int) < 8)]; rfl
    have h0 : 0 ≤ (i : Int) := by omega
    have h1 : (i : Int) < 8 := by omega
    have hv : (bs.map bcell)[(i : Int).toNat * 1]? = some (bcell bs[i]) := by rw [Int.toNat_natCast, Nat.mul_one, List.getElem?_map, List.getElem?_eq_getElem hi]; rfl
    refine spec_of Try.func12 rfl Try.ntmps12 rfl ?_
    repeat' (first | (refine ex_regk (id := 0) (ts := [0, 1]) ?_; ((try (first | refine o_as (v := .int _ _) (by decide) rfl ?_ | refine o_as (by decide) rfl ?_)) <;> (try (refine ops_nilk ?_; intro _)) <;> (try ((first | refine keep_cons (v := .pointer _) rfl ?_ | refine keep_cons (v := _) rfl ?_) <;> (first | refine keep_cons (v := .int _ _) rfl ?_ | refine keep_cons (v := _) rfl ?_))) <;> (try refine keep_nil ?_))) | (refine ex_regk (id := 1) (ts := [0, 1, 7]) ?_; ((try (first | refine o_mv (v := .int _ _) (by decide) rfl ?_ | refine o_mv (by decide) rfl ?_)) <;> (try ((refine o_call (there _) (by first | exact True.intro | (show _ < _; decide)) rfl rfl (fun _ _ => ?_); rw [d]))) <;> (try (refine o_not (by decide) rfl ?_)) <;> (try (refine ops_nilk ?_; intro _)) <;> (try ((first | refine keep_cons (v := .pointer _) rfl ?_ | refine keep_cons (v := _) rfl ?_) <;> (first | refine keep_cons (v := .int _ _) rfl ?_ | refine keep_cons (v := _) rfl ?_) <;> (first | refine keep_cons (v := .bool _) rfl ?_ | refine keep_cons (v := _) rfl ?_))) <;> (try refine keep_nil ?_))) | (refine ex_regk (id := 3) (ts := [4]) ?_; ((try (first | refine o_mv (v := .pointer _) (by decide) rfl ?_ | refine o_mv (by decide) rfl ?_)) <;> (try (first | refine o_mv (v := .int _ _) (by decide) rfl ?_ | refine o_mv (by decide) rfl ?_)) <;> (try (first | refine o_nil (by decide) rfl ?_ | refine o_nil_func (by decide) rfl ?_)) <;> (try (refine o_fieldAddr' (by decide) rfl ?_)) <;> (try (refine o_indexA (by decide) rfl rfl (by first | decide | assumption | omega) (by first | decide | assumption | omega) ?_)) <;> (try (refine o_load_r (ad := ⟨b, 0, none⟩) (by decide) (by rw [add_none]; simp only [Nat.zero_add]; rfl) hv ?_)) <;> (try (refine o_len (by decide) rfl rfl ?_)) <;> (try (first | refine o_as (v := .int _ _) (by decide) rfl ?_ | refine o_as (by decide) rfl ?_)) <;> (try (refine ops_nilk ?_; intro _)) <;> (try ((first | refine keep_cons (v := .int _ _) rfl ?_ | refine keep_cons (v := _) rfl ?_))) <;> (try refine keep_nil ?_))) | refine ex_seq ?_ | refine ex_block ?_ | refine ex_ret ?_ | refine ex_skip ?_ | refine ex_exit ?_ | refine ex_cond_t rfl ?_ | refine ex_cond_f rfl ?_ | refine ex_cond_t (congrArg Value.bool (by assumption)) ?_ | refine ex_cond_f (congrArg Value.bool (by assumption)) ?_ | (refine ex_split rfl ?_ ?_ <;> intro hc))
    exact fin (.inr rfl) () (resl1 rfl (rv_tmp (by subst hm; rfl))) trivial ent_take
  · rw [dif_neg h] at hm
    subst hm
    have d : (decide (t ≥ 0) && decide (t < 8)) = false := by
      rw [Bool.eq_false_iff]; intro hh; rw [Bool.and_eq_true, decide_eq_true_iff, decide_eq_true_iff] at hh; exact h hh
    refine spec_of Try.func12 rfl Try.ntmps12 rfl ?_
    repeat' (first | (refine ex_regk (id := 0) (ts := [0, 1]) ?_; ((try (first | refine o_as (v := .int _ _) (by decide) rfl ?_ | refine o_as (by decide) rfl ?_)) <;> (try (refine ops_nilk ?_; intro _)) <;> (try ((first | refine keep_cons (v := .pointer _) rfl ?_ | refine keep_cons (v := _) rfl ?_) <;> (first | refine keep_cons (v := .int _ _) rfl ?_ | refine keep_cons (v := _) rfl ?_))) <;> (try refine keep_nil ?_))) | (refine ex_regk (id := 1) (ts := [0, 1, 7]) ?_; ((try (first | refine o_mv (v := .int _ _) (by decide) rfl ?_ | refine o_mv (by decide) rfl ?_)) <;> (try ((refine o_call (there _) (by first | exact True.intro | (show _ < _; decide)) rfl rfl (fun _ _ => ?_); rw [d]))) <;> (try (refine o_not (by decide) rfl ?_)) <;> (try (refine ops_nilk ?_; intro _)) <;> (try ((first | refine keep_cons (v := .pointer _) rfl ?_ | refine keep_cons (v := _) rfl ?_) <;> (first | refine keep_cons (v := .int _ _) rfl ?_ | refine keep_cons (v := _) rfl ?_) <;> (first | refine keep_cons (v := .bool _) rfl ?_ | refine keep_cons (v := _) rfl ?_))) <;> (try refine keep_nil ?_))) | (refine ex_regk (id := 2) (ts := [4]) ?_; ((try (first | refine o_as (v := .int _ _) (by decide) rfl ?_ | refine o_as (by decide) rfl ?_)) <;> (try (refine ops_nilk ?_; intro _)) <;> (try ((first | refine keep_cons (v := .int _ _) rfl ?_ | refine keep_cons (v := _) rfl ?_))) <;> (try refine keep_nil ?_))) | refine ex_seq ?_ | refine ex_block ?_ | refine ex_ret ?_ | refine ex_skip ?_ | refine ex_exit ?_ | refine ex_cond_t rfl ?_ | refine ex_cond_f rfl ?_ | refine ex_cond_t (congrArg Value.bool (by assumption)) ?_ | refine ex_cond_f (congrArg Value.bool (by assumption)) ?_ | (refine ex_split rfl ?_ ?_ <;> intro hc))
    exact fin (.inr rfl) () (resl1 rfl (rv_tmp rfl)) trivial ent_take
end Go.Proofs.YtliajhikhmgbjaaS
