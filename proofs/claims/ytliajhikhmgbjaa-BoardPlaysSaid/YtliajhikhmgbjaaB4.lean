import Derived.Test.YtliajhikhmgbjaaB3
import Derived.Test.YtliajhikhmgbjaaTb
namespace Go.Proofs.YtliajhikhmgbjaaS
open Go.RowKit
set_option linter.unusedVariables false
set_option linter.unusedSimpArgs false
abbrev br0 : Br := (none, 0, [])
abbrev bs0 : List Br := [br0, br0, br0, br0, br0, br0, br0, br0]
theorem bow0 (H : HP) : Ent H (bow br0 * H) := Ent.ow_none 25 4 H
theorem bm0 (H : HP) : Ent H (bm bs0 * H) := by
  show Ent H ((bow br0 * (bow br0 * (bow br0 * (bow br0 * (bow br0 * (bow br0 * (bow br0 * (bow br0 * 1)))))))) * H)
  simp only [sep_assoc, one_sep]
  exact (bow0 H).trans ((bow0 _).trans ((bow0 _).trans ((bow0 _).trans ((bow0 _).trans ((bow0 _).trans ((bow0 _).trans (bow0 _)))))))
set_option linter.unusedVariables false
set_option linter.unusedSimpArgs false
attribute [local irreducible] Ops Ex Spec T V QO OA Rn OS
theorem new_ (H : HP) : Spec Try.prog 7 [] H (X := Nat) (fun b => .pointer (some ⟨b, 0, none⟩)) (fun _ => True) (fun b => cl true b (bs0.map bcell) 48 (0, 0) * (bm bs0 * H)) := by
  refine spec_of Try.func7 rfl Try.ntmps7 rfl ?_
  refine Ex.ent ?_ (bm0 H)
  repeat' (first | (refine ex_regk (id := 0) (ts := []) ?_; ((try (first | refine o_as (v := .pointer _) (by decide) rfl ?_ | refine o_as (by decide) rfl ?_)) <;> (try (refine ops_nilk ?_; intro _)) <;> (try (skip)) <;> (try refine keep_nil ?_))) | (refine ex_regk (id := 1) (ts := [0]) ?_; ((try (refine o_build (cells := bs0.map bcell) (by decide) rfl ?_)) <;> (try ((refine o_box (by decide) (v := .agg (List.toArray _)) rfl rfl (fun b2 => ?_)))) <;> (try (first | refine o_as (v := .pointer _) (by decide) rfl ?_ | refine o_as (by decide) rfl ?_)) <;> (try (refine ops_nilk ?_; intro _)) <;> (try ((first | refine keep_cons (v := .pointer _) rfl ?_ | refine keep_cons (v := _) rfl ?_))) <;> (try refine keep_nil ?_))) | refine ex_seq ?_ | refine ex_block ?_ | refine ex_ret ?_ | refine ex_skip ?_ | refine ex_exit ?_ | refine ex_cond_t rfl ?_ | refine ex_cond_f rfl ?_ | refine ex_cond_t (congrArg Value.bool (by assumption)) ?_ | refine ex_cond_f (congrArg Value.bool (by assumption)) ?_ | (refine ex_split rfl ?_ ?_ <;> intro hc))
  exact fin (.inr rfl) b2 (resl1 rfl (rv_tmp rfl)) trivial (Ent.refl _)
set_option maxHeartbeats 8000000 in
theorem twin (b : Nat) (H : HP) (bs : List Br) (h8 : bs.length = 8) (hl : ∀ i (h : i < bs.length), (bs[i]).2.2.length ≤ 1000000) (hrd : ∀ i (h : i < bs.length), RdC H (bs[i]).1 ((bs[i]).2.2.flatMap lc)) [hb : RdC H (some ⟨b, 0, none⟩) (bs.map bcell)] :
    Spec Try.prog 13 [.pointer (some ⟨b, 0, none⟩)] H (X := Nat × List Br) (fun y => .pointer (some ⟨y.1, 0, none⟩)) (fun y => y.2.length = 8 ∧ ∀ i (h : i < bs.length) (h' : i < y.2.length), (y.2[i]).2.2 = (bs[i]).2.2 ∧ (y.2[i]).2.2.length ≤ (y.2[i]).2.1) (fun y => cl true y.1 (y.2.map bcell) 48 (0, 0) * (bm y.2 * H)) := by
  have hsub : sub (bs.map bcell) 0 8 = some (bs.map bcell) := by
    have hb8 : (bs.map bcell).length = 8 := by rw [List.length_map]; exact h8
    unfold sub; rw [if_pos (by omega), List.drop_zero, ← hb8, List.take_length]
  refine spec_of Try.func13 rfl Try.ntmps13 rfl ?_
  repeat' (first | (refine ex_regk (id := 0) (ts := [0]) ?_; ((try (first | refine o_as (v := .pointer _) (by decide) rfl ?_ | refine o_as (by decide) rfl ?_)) <;> (try (refine ops_nilk ?_; intro _)) <;> (try ((first | refine keep_cons (v := .pointer _) rfl ?_ | refine keep_cons (v := _) rfl ?_))) <;> (try refine keep_nil ?_))) | (refine ex_regk (id := 1) (ts := [0, 3]) ?_; ((try (refine o_callH (new_ _) (by first | exact True.intro | (show _ < _; decide)) rfl rfl (fun b2 _ => ?_))) <;> (try (first | refine o_as (v := .pointer _) (by decide) rfl ?_ | refine o_as (by decide) rfl ?_)) <;> (try (refine ops_nilk ?_; intro _)) <;> (try ((first | refine keep_cons (v := .pointer _) rfl ?_ | refine keep_cons (v := _) rfl ?_) <;> (first | refine keep_cons (v := .pointer _) rfl ?_ | refine keep_cons (v := _) rfl ?_))) <;> (try refine keep_nil ?_))) | (refine ex_regk (id := 2) (ts := [3, 10, 11]) ?_; ((try (first | refine o_mv (v := .pointer _) (by decide) rfl ?_ | refine o_mv (by decide) rfl ?_)) <;> (try (first | refine o_nil (by decide) rfl ?_ | refine o_nil_func (by decide) rfl ?_)) <;> (try (refine o_fieldAddr' (by decide) rfl ?_)) <;> (try (refine o_load_ra (ad := ⟨b, 0, none⟩) (j := 0) (vs := bs.map bcell) (by decide) (by rw [add_none]; rfl) hsub ?_)) <;> (try (first | refine o_mv (v := .int _ _) (by decide) rfl ?_ | refine o_mv (by decide) rfl ?_)) <;> (try (refine ops_nilk ?_; intro _)) <;> (try ((first | refine keep_cons (v := .pointer _) rfl ?_ | refine keep_cons (v := _) rfl ?_) <;> (first | refine keep_cons (v := .agg (List.toArray _)) rfl ?_ | refine keep_cons (v := _) rfl ?_) <;> (first | refine keep_cons (v := .int _ _) rfl ?_ | refine keep_cons (v := _) rfl ?_))) <;> (try refine keep_nil ?_))) | refine ex_seq ?_ | refine ex_block ?_ | refine ex_ret ?_ | refine ex_skip ?_ | refine ex_exit ?_ | refine ex_cond_t rfl ?_ | refine ex_cond_f rfl ?_ | refine ex_cond_t (congrArg Value.bool (by assumption)) ?_ | refine ex_cond_f (congrArg Value.bool (by assumption)) ?_ | (refine ex_split rfl ?_ ?_ <;> intro hc))
  refine ex_loopE (fun mm e H' => ∃ G, ∃ j : Nat, ∃ bj : List Br, e = put (put (put G 3 (.pointer (some ⟨b2, 0, none⟩))) 10 (.agg (bs.map bcell).toArray)) 11 (.int .i64 (j : Int)) ∧ H' = cl true b2 (bj.map bcell) 48 (0, 0) * (bm bj * H) ∧ j ≤ 8 ∧ mm = 8 - j ∧ bj.length = 8 ∧
    (∀ i (h : i < bs.length) (h' : i < bj.length), i < j → (bj[i]).2.2 = (bs[i]).2.2 ∧ (bj[i]).2.2.length ≤ (bj[i]).2.1)) (m := 8) ⟨_, 0, bs0, rfl, rfl, by omega, rfl, rfl, fun i h h' hj => absurd hj (by omega)⟩ (Ent.refl _) ?_
  rintro mm e H' ⟨G, j, bj, rfl, rfl, hj, rfl, hbl, hp⟩
  by_cases hj8 : j < 8
  · have d12 : decide ((j : Int) < 8) = true := decide_eq_true (by omega)
    have h0 : 0 ≤ (j : Int) := by omega
    have h1 : (j : Int) < 8 := by omega
    have hjb : j < bj.length := by omega
    have hjs : j < bs.length := by omega
    have e22 : IntKind.i64.wrap ((j : Int) + 1) = ((j + 1 : Nat) : Int) := by rw [IntKind.wrap_i64]; omega
    have hv : (bs.map bcell)[(j : Int).toNat * 1]? = some (bcell bs[j]) := by rw [Int.toNat_natCast, Nat.mul_one, List.getElem?_map, List.getElem?_eq_getElem hjs]; rfl
    have hbj := bm_get bj j hjb
    have hset := bm_set bj j hjb
    have hcs := fun r => bcell_set bj j r hjb
    have hlj := hl j hjs
    have hrj := hrd j hjs
    have hidx : 0 + 0 + (j : Int).toNat * 1 = j := by rw [Int.toNat_natCast]; omega
    have hf : Nat.blt (0 + 0 + (j : Int).toNat * 1) (bj.map bcell).length = true := by rw [hidx, List.length_map, Nat.blt_eq]; exact hjb
    generalize hBm : bm (bj.eraseIdx j) = BM at *
    rw [hbj]
    generalize hRj : bs[j] = R at *
    obtain ⟨ra, rc, rl⟩ := R
    have hrj : RdC H ra (rl.flatMap lc) := hrj
    have hlj : rl.length ≤ 1000000 := hlj
    repeat' (first | (refine ex_regk (id := 3) (ts := [3, 10, 11, 12]) ?_; ((try ((refine o_int (by decide) rfl rfl rfl ?_; rw [d12]))) <;> (try (refine ops_nilk ?_; intro _)) <;> (try ((first | refine keep_cons (v := .pointer _) rfl ?_ | refine keep_cons (v := _) rfl ?_) <;> (first | refine keep_cons (v := .agg (List.toArray _)) rfl ?_ | refine keep_cons (v := _) rfl ?_) <;> (first | refine keep_cons (v := .int _ _) rfl ?_ | refine keep_cons (v := _) rfl ?_) <;> (first | refine keep_cons (v := _) rfl ?_))) <;> (try refine keep_nil ?_))) | (refine ex_regk (id := 4) (ts := [3, 4, 5, 10, 11]) ?_; ((try (first | refine o_mv (v := .int _ _) (by decide) rfl ?_ | refine o_mv (by decide) rfl ?_)) <;> (try (refine o_idxS (v := bcell (ra, rc, rl)) (by decide) rfl rfl h0 (by omega) Try.underlying46 (fun _ => by kernel_rfl) (sz := 1) (fun _ => by kernel_rfl) hv ?_)) <;> (try (first | refine o_as (v := .int _ _) (by decide) rfl ?_ | refine o_as (by decide) rfl ?_)) <;> (try (first | refine o_as (v := .slice _ _ _) (by decide) rfl ?_ | refine o_as (by decide) rfl ?_)) <;> (try (refine ops_nilk ?_; intro _)) <;> (try ((first | refine keep_cons (v := .pointer _) rfl ?_ | refine keep_cons (v := _) rfl ?_) <;> (first | refine keep_cons (v := .int _ _) rfl ?_ | refine keep_cons (v := _) rfl ?_) <;> (first | refine keep_cons (v := .slice _ _ _) rfl ?_ | refine keep_cons (v := _) rfl ?_) <;> (first | refine keep_cons (v := .agg (List.toArray _)) rfl ?_ | refine keep_cons (v := _) rfl ?_) <;> (first | refine keep_cons (v := .int _ _) rfl ?_ | refine keep_cons (v := _) rfl ?_))) <;> (try refine keep_nil ?_))) | (refine ex_anyk (id := 5) (ts := [3, 10, 11]) (k := 8) rfl ?_; (refine os_but 3 rfl ?_); ((refine os_pre (v := ?_) 0 rfl (by kernel_rfl) (by kernel_rfl) (by kernel_rfl) rfl (by decide) ?_ ?_; rotate_left; (focus ((first | refine o_mv (v := .pointer _) (by decide) rfl ?_ | refine o_mv (by decide) rfl ?_) <;> (refine os_look ?_ <;> first | exact Ent.refl _ | exact ent_take))); ((refine os_pre (v := ?_) 1 rfl (by kernel_rfl) (by kernel_rfl) (by kernel_rfl) rfl (by decide) ?_ ?_; rotate_left; (focus ((first | refine o_mv (v := .int _ _) (by decide) rfl ?_ | refine o_mv (by decide) rfl ?_) <;> (refine os_look ?_ <;> first | exact Ent.refl _ | exact ent_take))); ((refine os_pre (v := ?_) 2 rfl (by kernel_rfl) (by kernel_rfl) (by kernel_rfl) rfl (by decide) ?_ ?_; rotate_left; (focus ((first | refine o_mv (v := .slice _ _ _) (by decide) rfl ?_ | refine o_mv (by decide) rfl ?_) <;> (refine os_look ?_ <;> first | exact Ent.refl _ | exact ent_take))); ((refine os_pre (v := ?_) 4 rfl (by kernel_rfl) (by kernel_rfl) (by kernel_rfl) rfl (by decide) ?_ ?_; rotate_left; (focus ((first | refine o_nil (by decide) rfl ?_ | refine o_nil_func (by decide) rfl ?_) <;> (refine os_look ?_ <;> first | exact Ent.refl _ | exact ent_take))); ((refine os_pre (v := ?_) 5 rfl (by kernel_rfl) (by kernel_rfl) (by kernel_rfl) rfl (by decide) ?_ ?_; rotate_left; (focus ((refine o_fieldAddr' (by decide) rfl ?_) <;> (refine os_look ?_ <;> first | exact Ent.refl _ | exact ent_take))); ((refine os_one 3 (by kernel_rfl) rfl ?_ <;> ((refine o_callH (clone _ ra rl rc hlj) (by first | exact True.intro | (show _ < _; decide)) rfl rfl (fun y hy => ?_); obtain ⟨ya, yc⟩ := y)) <;> (refine os_nil ?_) <;> ((refine os_pre (v := ?_) 6 rfl (by kernel_rfl) (by kernel_rfl) (by kernel_rfl) rfl (by decide) ?_ ?_; rotate_left; (focus ((refine o_indexA (by decide) rfl rfl (by first | decide | assumption | omega) (by first | decide | assumption | omega) ?_) <;> (refine os_look ?_ <;> first | exact Ent.refl _ | exact ent_take))); ((refine os_one 7 (by kernel_rfl) rfl ?_ <;> (refine o_store_s (v := bcell (ya, yc, rl)) rfl rfl rfl hf ?_) <;> (refine os_nil ?_) <;> ((refine os_donek (by kernel_rfl) ?_; intro _; ((first | refine keep_cons (v := .pointer _) rfl ?_ | refine keep_cons (v := _) rfl ?_) <;> (first | refine keep_cons (v := .agg (List.toArray _)) rfl ?_ | refine keep_cons (v := _) rfl ?_) <;> (first | refine keep_cons (v := .int _ _) rfl ?_ | refine keep_cons (v := _) rfl ?_)); (refine keep_nil ?_)))))))))))))))))))) | (refine ex_regk (id := 6) (ts := [3, 10, 11]) ?_; ((try (refine o_int (by decide) rfl rfl rfl ?_)) <;> (try (first | refine o_mv (v := .int _ _) (by decide) rfl ?_ | refine o_mv (by decide) rfl ?_)) <;> (try (refine ops_nilk ?_; intro _)) <;> (try ((first | refine keep_cons (v := .pointer _) rfl ?_ | refine keep_cons (v := _) rfl ?_) <;> (first | refine keep_cons (v := .agg (List.toArray _)) rfl ?_ | refine keep_cons (v := _) rfl ?_) <;> (first | refine keep_cons (v := .int _ _) rfl ?_ | refine keep_cons (v := _) rfl ?_))) <;> (try refine keep_nil ?_))) | refine ex_seq ?_ | refine ex_block ?_ | refine ex_ret ?_ | refine ex_skip ?_ | refine ex_exit ?_ | refine ex_cond_t rfl ?_ | refine ex_cond_f rfl ?_ | refine ex_cond_t (congrArg Value.bool (by assumption)) ?_ | refine ex_cond_f (congrArg Value.bool (by assumption)) ?_ | (refine ex_split rfl ?_ ?_ <;> intro hc))
    rw [e22, hidx, hcs]
    refine ⟨8 - (j + 1), by omega, _, ?_, _, j + 1, bj.set j (ya, yc, rl), rfl, rfl, by omega, rfl, by rw [List.length_set]; exact hbl, fun i h h' hij => ?_⟩
    · rw [hset, sep_assoc]; unfold bow; exact ent_take
    · by_cases hij2 : i = j
      · subst hij2
        rw [List.getElem_set_self]
        exact ⟨by rw [hRj], hy⟩
      · have hib : i < bj.length := by omega
        rw [List.getElem_set_ne (fun e => hij2 e.symm)]
        exact hp i h hib (by omega)
  · have hj8 : j = 8 := by omega
    subst hj8
    have d12 : decide (((8 : Nat) : Int) < 8) = false := rfl
    repeat' (first | (refine ex_regk (id := 3) (ts := [3, 10, 11, 12]) ?_; ((try ((refine o_int (by decide) rfl rfl rfl ?_; rw [d12]))) <;> (try (refine ops_nilk ?_; intro _)) <;> (try ((first | refine keep_cons (v := .pointer _) rfl ?_ | refine keep_cons (v := _) rfl ?_) <;> (first | refine keep_cons (v := .agg (List.toArray _)) rfl ?_ | refine keep_cons (v := _) rfl ?_) <;> (first | refine keep_cons (v := .int _ _) rfl ?_ | refine keep_cons (v := _) rfl ?_) <;> (first | refine keep_cons (v := _) rfl ?_))) <;> (try refine keep_nil ?_))) | (refine ex_regk (id := 7) (ts := [2]) ?_; ((try (first | refine o_mv (v := .pointer _) (by decide) rfl ?_ | refine o_mv (by decide) rfl ?_)) <;> (try (first | refine o_as (v := .pointer _) (by decide) rfl ?_ | refine o_as (by decide) rfl ?_)) <;> (try (refine ops_nilk ?_; intro _)) <;> (try ((first | refine keep_cons (v := .pointer _) rfl ?_ | refine keep_cons (v := _) rfl ?_))) <;> (try refine keep_nil ?_))) | refine ex_seq ?_ | refine ex_block ?_ | refine ex_ret ?_ | refine ex_skip ?_ | refine ex_exit ?_ | refine ex_cond_t rfl ?_ | refine ex_cond_f rfl ?_ | refine ex_cond_t (congrArg Value.bool (by assumption)) ?_ | refine ex_cond_f (congrArg Value.bool (by assumption)) ?_ | (refine ex_split rfl ?_ ?_ <;> intro hc))
    exact fin (.inr rfl) (b2, bj) (resl1 rfl (rv_tmp rfl)) ⟨hbl, fun i h h' => hp i h h' (by omega)⟩ (Ent.refl _)
end Go.Proofs.YtliajhikhmgbjaaS
