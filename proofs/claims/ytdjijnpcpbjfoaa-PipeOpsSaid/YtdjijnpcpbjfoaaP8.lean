import Derived.Test.YtdjijnpcpbjfoaaP7
namespace Go.Proofs.YtdjijnpcpbjfoaaS
open Go.RowKit
set_option linter.unusedVariables false
set_option linter.unusedSimpArgs false
/-- A pipe as it lies: where its operations are, their room, the pipe. -/
abbrev Pe : Type := Option Addr × Nat × Pp
def pe (x : Pe) : List Value := pv x.1 x.2.1 x.2.2
theorem pe_len (x : Pe) : (pe x).length = 6 := rfl
theorem pe_one (x : Pe) : ∀ v ∈ pe x, v.oneCell' = true := by intro v hv; simp [pe, pv] at hv; rcases hv with rfl | rfl | rfl | rfl | rfl | rfl <;> rfl
def allSame : List Pe → Bool
  | [] => true
  | x :: t => (x :: t).all (fun y => decide (x.2.2 = y.2.2))
set_option linter.unusedVariables false
set_option linter.unusedSimpArgs false
attribute [local irreducible] Ops Ex Spec T V QO OA Rn OS
set_option maxHeartbeats 4000000 in
theorem sameP (H : HP) (a : Option Addr) (l : List Pe) (cap m : Nat) {cs : List Value} [hr : RdC H a cs] (hm : m = l.length) (hcs : cs = l.flatMap pe) (hrd : ∀ i (h : i < l.length), RdC H l[i].1 (l[i].2.2.1.flatMap oc)) (hl : l.length ≤ 1000000) (hL : ∀ x ∈ l, x.2.2.1.length ≤ 1000000) {r : Bool} (hres : allSame l = r) :
    Spec Try.prog 13 [.slice a m cap] H (X := Unit) (fun _ => .bool r) (fun _ => True) (fun _ => H) := by
  subst hm; subst hcs
  have hx0 : ∀ h : 0 < l.length, l[0] = l.headD (none, 0, p0) := fun h => by cases l with | nil => cases h | cons x t => rfl
  generalize l.headD (none, 0, p0) = x0 at hx0
  refine spec_of Try.func13 rfl Try.ntmps13 rfl ?_
  repeat' (first | (refine ex_regk (id := 0) (ts := [0]) ?_; ((try (first | refine o_as (v := .bool _) (by decide) rfl ?_ | refine o_as (by decide) rfl ?_)) <;> (try (refine ops_nilk ?_; intro _)) <;> (try ((first | refine keep_cons (v := .slice _ _ _) rfl ?_ | refine keep_cons (v := _) rfl ?_))) <;> (try refine keep_nil ?_))) | (refine ex_regk (id := 1) (ts := [0, 5, 6, 7]) ?_; ((try (first | refine o_mv (v := .slice _ _ _) (by decide) rfl ?_ | refine o_mv (by decide) rfl ?_)) <;> (try (refine o_len (by decide) rfl rfl ?_)) <;> (try (first | refine o_mv (v := .int _ _) (by decide) rfl ?_ | refine o_mv (by decide) rfl ?_)) <;> (try (refine ops_nilk ?_; intro _)) <;> (try ((first | refine keep_cons (v := .slice _ _ _) rfl ?_ | refine keep_cons (v := _) rfl ?_) <;> (first | refine keep_cons (v := .slice _ _ _) rfl ?_ | refine keep_cons (v := _) rfl ?_) <;> (first | refine keep_cons (v := .int _ _) rfl ?_ | refine keep_cons (v := _) rfl ?_) <;> (first | refine keep_cons (v := .int _ _) rfl ?_ | refine keep_cons (v := _) rfl ?_))) <;> (try refine keep_nil ?_))) | refine ex_seq ?_ | refine ex_block ?_ | refine ex_ret ?_ | refine ex_skip ?_ | refine ex_exit ?_ | refine ex_cond_t rfl ?_ | refine ex_cond_f rfl ?_ | refine ex_cond_t (congrArg Value.bool (by assumption)) ?_ | refine ex_cond_f (congrArg Value.bool (by assumption)) ?_ | (refine ex_split rfl ?_ ?_ <;> intro hc))
  refine ex_loopE (fun mm e H' => ∃ g, ∃ i : Nat, e = put (put (put (put g 0 (.slice a l.length cap)) 5 (.slice a l.length cap)) 6 (.int .i64 (l.length : Int))) 7 (.int .i64 (i : Int)) ∧ H' = H ∧ i ≤ l.length ∧ mm = l.length - i ∧ (∀ j (h : j < l.length), j < i → x0.2.2 = l[j].2.2)) (m := l.length) ⟨_, 0, rfl, rfl, by omega, by omega, fun j h hj => absurd hj (by omega)⟩ (Ent.refl _) ?_
  rintro mm e H' ⟨g, i, rfl, rfl, hi, rfl, hs⟩
  by_cases hlt : i < l.length
  · have hd : decide ((i : Int) < (l.length : Int)) = true := by simp; omega
    have h0 : 0 ≤ (i : Int) := by omega
    have h1 : (i : Int) < (l.length : Int) := by omega
    have h00 : (0 : Int) < (l.length : Int) := by omega
    refine Ex.rd_some (a := a) (l := l.flatMap pe) (by rw [flat_len pe_len]; omega) (fun ad hha => ?_)
    subst hha
    have hv1 : sub (l.flatMap pe) ((i : Int).toNat * 6) 6 = some (pe l[i]) := by rw [Int.toNat_natCast]; exact sub_flat pe_len l i hlt
    have hpos : 0 < l.length := by omega
    have hx := hx0 hpos
    have hv0 : sub (l.flatMap pe) ((0 : Int).toNat * 6) 6 = some (pe x0) := by rw [← hx]; exact sub_flat pe_len l 0 hpos
    have e1 : IntKind.i64.wrap ((i : Int) + 1) = ((i + 1 : Nat) : Int) := by rw [IntKind.wrap_i64]; omega
    have hr0 := hrd 0 hpos
    rw [hx] at hr0
    have hri := hrd i hlt
    have hL0 := hL _ (List.getElem_mem hpos)
    rw [hx] at hL0
    have hsp : spl [.slice none 0 0, .int .i64 0, .int .i64 0, .int .i64 0, .int .i64 0, .int .i64 0] 0 (pe l[i]) = pe l[i] := rfl
    by_cases he : x0.2.2 = l[i].2.2
    · have hde : decide (x0.2.2 = l[i].2.2) = true := decide_eq_true he
      repeat' (first | (refine ex_regk (id := 2) (ts := [0, 5, 6, 7, 8]) ?_; ((try (refine o_int (by decide) rfl rfl rfl ?_)) <;> (try (refine ops_nilk ?_; intro _)) <;> (try ((first | refine keep_cons (v := .slice _ _ _) rfl ?_ | refine keep_cons (v := _) rfl ?_) <;> (first | refine keep_cons (v := .slice _ _ _) rfl ?_ | refine keep_cons (v := _) rfl ?_) <;> (first | refine keep_cons (v := .int _ _) rfl ?_ | refine keep_cons (v := _) rfl ?_) <;> (first | refine keep_cons (v := .int _ _) rfl ?_ | refine keep_cons (v := _) rfl ?_) <;> (first | refine keep_cons (v := _) rfl ?_))) <;> (try refine keep_nil ?_))) | (refine ex_regk (id := 3) (ts := [0, 4, 5, 6, 7]) ?_; ((try (refine o_index (by decide) rfl rfl (by first | decide | assumption | omega) (by first | decide | assumption | omega) ?_)) <;> (try (refine o_load_ra (vs := pe l[i]) (by decide) rfl hv1 ?_)) <;> (try ((refine o_alloc_a (by decide) (fun _ => ?_)))) <;> (try (first | refine o_store_a rfl rfl rfl rfl rfl ?_ | refine o_store_oa rfl rfl rfl (Nat.succ_pos _) rfl (by assumption) ?_)) <;> (try (refine ops_nilk ?_; intro _)) <;> (try ((first | refine keep_cons (v := .slice _ _ _) rfl ?_ | refine keep_cons (v := _) rfl ?_) <;> (first | refine keep_cons (v := .pointer _) rfl ?_ | refine keep_cons (v := _) rfl ?_) <;> (first | refine keep_cons (v := .slice _ _ _) rfl ?_ | refine keep_cons (v := _) rfl ?_) <;> (first | refine keep_cons (v := .int _ _) rfl ?_ | refine keep_cons (v := _) rfl ?_) <;> (first | refine keep_cons (v := .int _ _) rfl ?_ | refine keep_cons (v := _) rfl ?_))) <;> (try refine keep_nil ?_))) | (refine ex_anyk (id := 4) (ts := [0, 5, 6, 7, 16]) (k := 6) rfl ?_; (refine os_all ?_); ((refine os_pre (v := ?_) 0 rfl (by kernel_rfl) (by kernel_rfl) (by kernel_rfl) rfl (by decide) ?_ ?_; rotate_left; (focus ((first | refine o_mv (v := .slice _ _ _) (by decide) rfl ?_ | refine o_mv (by decide) rfl ?_) <;> (refine os_look ?_ <;> first | exact Ent.refl _ | exact ent_take))); ((refine os_pre (v := ?_) 1 rfl (by kernel_rfl) (by kernel_rfl) (by kernel_rfl) rfl (by decide) ?_ ?_; rotate_left; (focus ((refine o_index (by decide) rfl rfl (by first | decide | assumption | omega) (by first | decide | assumption | omega) ?_) <;> (refine os_look ?_ <;> first | exact Ent.refl _ | exact ent_take))); ((refine os_pre (v := ?_) 2 rfl (by kernel_rfl) (by kernel_rfl) (by kernel_rfl) rfl (by decide) ?_ ?_; rotate_left; (focus ((refine o_load_ra (vs := pe x0) (by decide) rfl hv0 ?_) <;> (refine os_look ?_ <;> first | exact Ent.refl _ | exact ent_take))); ((refine os_pre (v := ?_) 3 rfl (by kernel_rfl) (by kernel_rfl) (by kernel_rfl) rfl (by decide) ?_ ?_; rotate_left; (focus ((refine o_load_a (vs := pe l[i]) (by decide) rfl rfl ?_) <;> (refine os_look ?_ <;> first | exact Ent.refl _ | exact ent_take))); ((refine os_one 4 (by kernel_rfl) rfl ?_ <;> (refine o_callH (psame _ _ _ _ _ x0.2.2 l[i].2.2 rfl rfl hL0 hde) (by first | exact True.intro | (show _ < _; decide)) rfl rfl (fun _ _ => ?_)) <;> (refine os_nil ?_) <;> ((refine os_pre (v := ?_) 5 rfl (by kernel_rfl) (by kernel_rfl) (by kernel_rfl) rfl (by decide) ?_ ?_; rotate_left; (focus ((refine o_not (by decide) rfl ?_) <;> (refine os_look ?_ <;> first | exact Ent.refl _ | exact ent_take))); ((refine os_donek (by kernel_rfl) ?_; intro _; ((first | refine keep_cons (v := .slice _ _ _) rfl ?_ | refine keep_cons (v := _) rfl ?_) <;> (first | refine keep_cons (v := .slice _ _ _) rfl ?_ | refine keep_cons (v := _) rfl ?_) <;> (first | refine keep_cons (v := .int _ _) rfl ?_ | refine keep_cons (v := _) rfl ?_) <;> (first | refine keep_cons (v := .int _ _) rfl ?_ | refine keep_cons (v := _) rfl ?_) <;> (first | refine keep_cons (v := .bool _) rfl ?_ | refine keep_cons (v := _) rfl ?_)); (refine keep_nil ?_)))))))))))))))) | (refine ex_regk (id := 6) (ts := [0, 5, 6, 7]) ?_; ((try (refine o_int (by decide) rfl rfl rfl ?_)) <;> (try (first | refine o_mv (v := .int _ _) (by decide) rfl ?_ | refine o_mv (by decide) rfl ?_)) <;> (try (refine ops_nilk ?_; intro _)) <;> (try ((first | refine keep_cons (v := .slice _ _ _) rfl ?_ | refine keep_cons (v := _) rfl ?_) <;> (first | refine keep_cons (v := .slice _ _ _) rfl ?_ | refine keep_cons (v := _) rfl ?_) <;> (first | refine keep_cons (v := .int _ _) rfl ?_ | refine keep_cons (v := _) rfl ?_) <;> (first | refine keep_cons (v := .int _ _) rfl ?_ | refine keep_cons (v := _) rfl ?_))) <;> (try refine keep_nil ?_))) | refine ex_seq ?_ | refine ex_block ?_ | refine ex_ret ?_ | refine ex_skip ?_ | refine ex_exit ?_ | refine ex_cond_t rfl ?_ | refine ex_cond_f rfl ?_ | refine ex_cond_t (congrArg Value.bool (by assumption)) ?_ | refine ex_cond_f (congrArg Value.bool (by assumption)) ?_ | (refine ex_split rfl ?_ ?_ <;> intro hc))
      rw [e1]
      refine ⟨l.length - (i + 1), by omega, _, ?_, _, i + 1, rfl, rfl, by omega, rfl, fun j h hj => ?_⟩
      · exact ent_take
      · by_cases hji : j < i
        · exact hs j h hji
        · have : j = i := by omega
          subst this; exact he
    · have hde : decide (x0.2.2 = l[i].2.2) = false := decide_eq_false he
      have hrf : r = false := by
        rw [← hres]
        cases l with
        | nil => simp at hlt
        | cons x t =>
          unfold allSame
          rw [List.all_eq_false]
          have hx' : x = x0 := hx
          subst hx'
          exact ⟨_, List.getElem_mem hlt, by simpa using he⟩
      subst hrf
      repeat' (first | (refine ex_regk (id := 2) (ts := [0, 5, 6, 7, 8]) ?_; ((try (refine o_int (by decide) rfl rfl rfl ?_)) <;> (try (refine ops_nilk ?_; intro _)) <;> (try ((first | refine keep_cons (v := .slice _ _ _) rfl ?_ | refine keep_cons (v := _) rfl ?_) <;> (first | refine keep_cons (v := .slice _ _ _) rfl ?_ | refine keep_cons (v := _) rfl ?_) <;> (first | refine keep_cons (v := .int _ _) rfl ?_ | refine keep_cons (v := _) rfl ?_) <;> (first | refine keep_cons (v := .int _ _) rfl ?_ | refine keep_cons (v := _) rfl ?_) <;> (first | refine keep_cons (v := _) rfl ?_))) <;> (try refine keep_nil ?_))) | (refine ex_regk (id := 3) (ts := [0, 4, 5, 6, 7]) ?_; ((try (refine o_index (by decide) rfl rfl (by first | decide | assumption | omega) (by first | decide | assumption | omega) ?_)) <;> (try (refine o_load_ra (vs := pe l[i]) (by decide) rfl hv1 ?_)) <;> (try ((refine o_alloc_a (by decide) (fun _ => ?_)))) <;> (try (first | refine o_store_a rfl rfl rfl rfl rfl ?_ | refine o_store_oa rfl rfl rfl (Nat.succ_pos _) rfl (by assumption) ?_)) <;> (try (refine ops_nilk ?_; intro _)) <;> (try ((first | refine keep_cons (v := .slice _ _ _) rfl ?_ | refine keep_cons (v := _) rfl ?_) <;> (first | refine keep_cons (v := .pointer _) rfl ?_ | refine keep_cons (v := _) rfl ?_) <;> (first | refine keep_cons (v := .slice _ _ _) rfl ?_ | refine keep_cons (v := _) rfl ?_) <;> (first | refine keep_cons (v := .int _ _) rfl ?_ | refine keep_cons (v := _) rfl ?_) <;> (first | refine keep_cons (v := .int _ _) rfl ?_ | refine keep_cons (v := _) rfl ?_))) <;> (try refine keep_nil ?_))) | (refine ex_anyk (id := 4) (ts := [0, 5, 6, 7, 16]) (k := 6) rfl ?_; (refine os_all ?_); ((refine os_pre (v := ?_) 0 rfl (by kernel_rfl) (by kernel_rfl) (by kernel_rfl) rfl (by decide) ?_ ?_; rotate_left; (focus ((first | refine o_mv (v := .slice _ _ _) (by decide) rfl ?_ | refine o_mv (by decide) rfl ?_) <;> (refine os_look ?_ <;> first | exact Ent.refl _ | exact ent_take))); ((refine os_pre (v := ?_) 1 rfl (by kernel_rfl) (by kernel_rfl) (by kernel_rfl) rfl (by decide) ?_ ?_; rotate_left; (focus ((refine o_index (by decide) rfl rfl (by first | decide | assumption | omega) (by first | decide | assumption | omega) ?_) <;> (refine os_look ?_ <;> first | exact Ent.refl _ | exact ent_take))); ((refine os_pre (v := ?_) 2 rfl (by kernel_rfl) (by kernel_rfl) (by kernel_rfl) rfl (by decide) ?_ ?_; rotate_left; (focus ((refine o_load_ra (vs := pe x0) (by decide) rfl hv0 ?_) <;> (refine os_look ?_ <;> first | exact Ent.refl _ | exact ent_take))); ((refine os_pre (v := ?_) 3 rfl (by kernel_rfl) (by kernel_rfl) (by kernel_rfl) rfl (by decide) ?_ ?_; rotate_left; (focus ((refine o_load_a (vs := pe l[i]) (by decide) rfl rfl ?_) <;> (refine os_look ?_ <;> first | exact Ent.refl _ | exact ent_take))); ((refine os_one 4 (by kernel_rfl) rfl ?_ <;> (refine o_callH (psame _ _ _ _ _ x0.2.2 l[i].2.2 rfl rfl hL0 hde) (by first | exact True.intro | (show _ < _; decide)) rfl rfl (fun _ _ => ?_)) <;> (refine os_nil ?_) <;> ((refine os_pre (v := ?_) 5 rfl (by kernel_rfl) (by kernel_rfl) (by kernel_rfl) rfl (by decide) ?_ ?_; rotate_left; (focus ((refine o_not (by decide) rfl ?_) <;> (refine os_look ?_ <;> first | exact Ent.refl _ | exact ent_take))); ((refine os_donek (by kernel_rfl) ?_; intro _; ((first | refine keep_cons (v := .slice _ _ _) rfl ?_ | refine keep_cons (v := _) rfl ?_) <;> (first | refine keep_cons (v := .slice _ _ _) rfl ?_ | refine keep_cons (v := _) rfl ?_) <;> (first | refine keep_cons (v := .int _ _) rfl ?_ | refine keep_cons (v := _) rfl ?_) <;> (first | refine keep_cons (v := .int _ _) rfl ?_ | refine keep_cons (v := _) rfl ?_) <;> (first | refine keep_cons (v := .bool _) rfl ?_ | refine keep_cons (v := _) rfl ?_)); (refine keep_nil ?_)))))))))))))))) | (refine ex_regk (id := 5) (ts := [2]) ?_; ((try (first | refine o_as (v := .bool _) (by decide) rfl ?_ | refine o_as (by decide) rfl ?_)) <;> (try (refine ops_nilk ?_; intro _)) <;> (try ((first | refine keep_cons (v := .bool _) rfl ?_ | refine keep_cons (v := _) rfl ?_))) <;> (try refine keep_nil ?_))) | refine ex_seq ?_ | refine ex_block ?_ | refine ex_ret ?_ | refine ex_skip ?_ | refine ex_exit ?_ | refine ex_cond_t rfl ?_ | refine ex_cond_f rfl ?_ | refine ex_cond_t (congrArg Value.bool (by assumption)) ?_ | refine ex_cond_f (congrArg Value.bool (by assumption)) ?_ | (refine ex_split rfl ?_ ?_ <;> intro hc))
      exact fin (.inr rfl) () (resl1 rfl (rv_tmp rfl)) trivial ent_take
  · have hil : i = l.length := by omega
    subst hil
    have hd : decide ((l.length : Int) < (l.length : Int)) = false := by simp
    have hrt : r = true := by
      rw [← hres]
      cases l with
      | nil => rfl
      | cons x t =>
        unfold allSame
        rw [List.all_eq_true]
        intro y hy
        obtain ⟨j, hj, rfl⟩ := List.getElem_of_mem hy
        have hx' : x = x0 := hx0 (Nat.succ_pos _)
        subst hx'
        exact decide_eq_true (hs j hj hj)
    subst hrt
    repeat' (first | (refine ex_regk (id := 2) (ts := [0, 5, 6, 7, 8]) ?_; ((try (refine o_int (by decide) rfl rfl rfl ?_)) <;> (try (refine ops_nilk ?_; intro _)) <;> (try ((first | refine keep_cons (v := .slice _ _ _) rfl ?_ | refine keep_cons (v := _) rfl ?_) <;> (first | refine keep_cons (v := .slice _ _ _) rfl ?_ | refine keep_cons (v := _) rfl ?_) <;> (first | refine keep_cons (v := .int _ _) rfl ?_ | refine keep_cons (v := _) rfl ?_) <;> (first | refine keep_cons (v := .int _ _) rfl ?_ | refine keep_cons (v := _) rfl ?_) <;> (first | refine keep_cons (v := _) rfl ?_))) <;> (try refine keep_nil ?_))) | (refine ex_regk (id := 7) (ts := [2]) ?_; ((try (first | refine o_as (v := .bool _) (by decide) rfl ?_ | refine o_as (by decide) rfl ?_)) <;> (try (refine ops_nilk ?_; intro _)) <;> (try ((first | refine keep_cons (v := .bool _) rfl ?_ | refine keep_cons (v := _) rfl ?_))) <;> (try refine keep_nil ?_))) | refine ex_seq ?_ | refine ex_block ?_ | refine ex_ret ?_ | refine ex_skip ?_ | refine ex_exit ?_ | refine ex_cond_t rfl ?_ | refine ex_cond_f rfl ?_ | refine ex_cond_t (congrArg Value.bool (by assumption)) ?_ | refine ex_cond_f (congrArg Value.bool (by assumption)) ?_ | (refine ex_split rfl ?_ ?_ <;> intro hc))
    exact fin (.inr rfl) () (resl1 rfl (rv_tmp rfl)) trivial (Ent.refl _)
end Go.Proofs.YtdjijnpcpbjfoaaS
