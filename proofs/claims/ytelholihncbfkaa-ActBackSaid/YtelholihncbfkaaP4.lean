import Derived.Test.YtelholihncbfkaaP3
import Derived.Test.YtelholihncbfkaaV4
namespace Go.Proofs.YtelholihncbfkaaS
open Go.RowKit
set_option linter.unusedVariables false
set_option linter.unusedSimpArgs false
/-- A pipe: its operations, and five numbers. -/
abbrev Pp : Type := List (Int × Int) × Int × Int × Int × Int × Int
def pv (a : Option Addr) (cap : Nat) (p : Pp) : List Value := [.slice a p.1.length cap, .int .i64 p.2.1, .int .i64 p.2.2.1, .int .i64 p.2.2.2.1, .int .i64 p.2.2.2.2.1, .int .i64 p.2.2.2.2.2]
def prs (L : List (Int × Int)) : List Int := L.flatMap (fun o => [o.1, o.2])
theorem prs_len (L : List (Int × Int)) : (prs L).length = 2 * L.length := by
  induction L with
  | nil => rfl
  | cons o t ih =>
    have e : prs (o :: t) = o.1 :: o.2 :: prs t := rfl
    rw [e, List.length_cons, List.length_cons, List.length_cons]; omega
theorem prs_app (L M : List (Int × Int)) : prs (L ++ M) = prs L ++ prs M := by unfold prs; rw [List.flatMap_append]
theorem prs_inj : ∀ (L M : List (Int × Int)), prs L = prs M → L = M := by
  intro L
  induction L with
  | nil =>
    intro M h
    have := prs_len M
    rw [← h] at this
    cases M with
    | nil => rfl
    | cons o t => simp [prs] at this
  | cons o t ih =>
    intro M h
    cases M with
    | nil => cases h
    | cons q s =>
      have e1 : prs (o :: t) = o.1 :: o.2 :: prs t := rfl
      have e2 : prs (q :: s) = q.1 :: q.2 :: prs s := rfl
      rw [e1, e2] at h
      simp only [List.cons.injEq] at h
      rw [ih s h.2.2, Prod.ext h.1 h.2.1]
def hd6 (p : Pp) : List Int := [p.2.1, p.2.2.1, p.2.2.2.1, p.2.2.2.2.1, p.2.2.2.2.2, (p.1.length : Int)]
def pl (p : Pp) : List Int := hd6 p ++ prs p.1
theorem pl_len (p : Pp) : (pl p).length = 6 + 2 * p.1.length := by unfold pl; rw [List.length_append, prs_len]; rfl
theorem pl_inj (p q : Pp) (h : pl p = pl q) : p = q := by
  obtain ⟨L, z, s, g, k, f⟩ := p
  obtain ⟨M, z', s', g', k', f'⟩ := q
  have h : z :: s :: g :: k :: f :: (L.length : Int) :: prs L = z' :: s' :: g' :: k' :: f' :: (M.length : Int) :: prs M := h
  simp only [List.cons.injEq] at h
  obtain ⟨rfl, rfl, rfl, rfl, rfl, _, h⟩ := h
  rw [prs_inj L M h]
def pir (p : Pp) : Bool := pipr p.1 p.2.1 p.2.2.1 p.2.2.2.1 p.2.2.2.2.1 p.2.2.2.2.2
theorem pir_len {p : Pp} (h : pir p = true) : p.1.length ≤ 6 := by
  unfold pir pipr at h
  simp only [Bool.and_eq_true, decide_eq_true_eq] at h
  exact h.1.1.1.1.1
def encb (p : Pp) : List Int := if pir p then puts (pl p) else []
theorem prs_take (L : List (Int × Int)) (i : Nat) (h : i < L.length) : prs (L.take (i + 1)) = prs (L.take i) ++ [L[i].1, L[i].2] := by
  rw [List.take_succ_eq_append_getElem h, prs_app]; rfl
set_option linter.unusedVariables false
set_option linter.unusedSimpArgs false
attribute [local irreducible] Ops Ex Spec T V QO OA Rn OS
set_option maxHeartbeats 4000000 in
theorem encode (H : HP) (a : Option Addr) (cap : Nat) (p : Pp) {cs : List Value} [hr : RdC H a cs] (hcs : cs = p.1.flatMap oc) (hl : p.1.length ≤ 1000000) (hw : pir p = true → ∀ n ∈ pl p, rng n) :
    Spec Try.prog 24 [.agg (pv a cap p).toArray] H (X := Option Addr × Nat) (fun y => .slice y.1 (encb p).length y.2) (fun y => (encb p).length ≤ y.2) (fun y => ow 5 1 y.1 (encb p).length y.2 ((encb p).flatMap (cw .u8)) * H) := by
  obtain ⟨L, z, s, g, k, f⟩ := p
  subst hcs
  cases hp : pir (L, z, s, g, k, f) with
  | false =>
    have he : encb (L, z, s, g, k, f) = [] := by unfold encb; rw [hp]; rfl
    have hp' : pipr L z s g k f = false := hp
    rw [he]
    refine spec_of Try.func24 rfl Try.ntmps24 rfl ?_
    repeat' (first | (refine ex_regk (id := 0) (ts := [1]) ?_; ((try ((refine o_box (by decide) (v := .agg (List.toArray _)) rfl rfl (fun _ => ?_)))) <;> (try (first | refine o_as (v := .slice _ _ _) (by decide) rfl ?_ | refine o_as (by decide) rfl ?_)) <;> (try (refine ops_nilk ?_; intro _)) <;> (try ((first | refine keep_cons (v := .pointer _) rfl ?_ | refine keep_cons (v := _) rfl ?_))) <;> (try refine keep_nil ?_))) | (refine ex_regk (id := 1) (ts := [1, 8]) ?_; ((try (first | refine o_load_a (by decide) rfl rfl ?_ | refine o_load_ra (by decide) rfl (by assumption) ?_ | refine o_load_ra (by decide) rfl rfl ?_)) <;> (try ((refine o_callH (pright _ a L _ cap z s g k f rfl rfl hl) (by first | exact True.intro | (show _ < _; decide)) rfl rfl (fun _ _ => ?_); rw [hp']))) <;> (try (refine o_not (by decide) rfl ?_)) <;> (try (refine ops_nilk ?_; intro _)) <;> (try ((first | refine keep_cons (v := .pointer _) rfl ?_ | refine keep_cons (v := _) rfl ?_) <;> (first | refine keep_cons (v := .bool _) rfl ?_ | refine keep_cons (v := _) rfl ?_))) <;> (try refine keep_nil ?_))) | (refine ex_regk (id := 2) (ts := [2]) ?_; ((try (first | refine o_as (v := .slice _ _ _) (by decide) rfl ?_ | refine o_as (by decide) rfl ?_)) <;> (try (refine ops_nilk ?_; intro _)) <;> (try ((first | refine keep_cons (v := .slice _ _ _) rfl ?_ | refine keep_cons (v := _) rfl ?_))) <;> (try refine keep_nil ?_))) | refine ex_seq ?_ | refine ex_block ?_ | refine ex_ret ?_ | refine ex_skip ?_ | refine ex_exit ?_ | refine ex_cond_t rfl ?_ | refine ex_cond_f rfl ?_ | refine ex_cond_t (congrArg Value.bool (by assumption)) ?_ | refine ex_cond_f (congrArg Value.bool (by assumption)) ?_ | (refine ex_split rfl ?_ ?_ <;> intro hc))
    exact fin (.inr rfl) (none, 0) (resl1 rfl (rv_tmp rfl)) (Nat.le_refl _) ((Ent.drop _ _).trans (Ent.ow_none 5 1 _))
  | true =>
    have he : encb (L, z, s, g, k, f) = puts (pl (L, z, s, g, k, f)) := by unfold encb; rw [hp]; rfl
    have hp' : pipr L z s g k f = true := hp
    have hL6 : L.length ≤ 6 := pir_len hp
    rw [he]
    refine spec_of Try.func24 rfl Try.ntmps24 rfl ?_
    repeat' (first | (refine ex_regk (id := 0) (ts := [1]) ?_; ((try ((refine o_box (by decide) (v := .agg (List.toArray _)) rfl rfl (fun b1 => ?_)))) <;> (try (first | refine o_as (v := .slice _ _ _) (by decide) rfl ?_ | refine o_as (by decide) rfl ?_)) <;> (try (refine ops_nilk ?_; intro _)) <;> (try ((first | refine keep_cons (v := .pointer _) rfl ?_ | refine keep_cons (v := _) rfl ?_))) <;> (try refine keep_nil ?_))) | (refine ex_regk (id := 1) (ts := [1, 8]) ?_; ((try (first | refine o_load_a (by decide) rfl rfl ?_ | refine o_load_ra (by decide) rfl (by assumption) ?_ | refine o_load_ra (by decide) rfl rfl ?_)) <;> (try ((refine o_callH (pright _ a L _ cap z s g k f rfl rfl hl) (by first | exact True.intro | (show _ < _; decide)) rfl rfl (fun _ _ => ?_); rw [hp']))) <;> (try (refine o_not (by decide) rfl ?_)) <;> (try (refine ops_nilk ?_; intro _)) <;> (try ((first | refine keep_cons (v := .pointer _) rfl ?_ | refine keep_cons (v := _) rfl ?_) <;> (first | refine keep_cons (v := .bool _) rfl ?_ | refine keep_cons (v := _) rfl ?_))) <;> (try refine keep_nil ?_))) | (refine ex_regk (id := 3) (ts := [1, 3]) ?_; ((try (refine o_fieldAddr' (by decide) rfl ?_)) <;> (try (first | refine o_load_s (v := .int _ _) (by decide) rfl rfl ?_ | refine o_load_s (by decide) rfl rfl ?_ | refine o_load_r (by decide) rfl (by assumption) ?_ | refine o_load_r (v := .int _ _) (by decide) rfl rfl ?_)) <;> (try (refine o_fieldAddr' (by decide) rfl ?_)) <;> (try (first | refine o_load_s (v := .int _ _) (by decide) rfl rfl ?_ | refine o_load_s (by decide) rfl rfl ?_ | refine o_load_r (by decide) rfl (by assumption) ?_ | refine o_load_r (v := .int _ _) (by decide) rfl rfl ?_)) <;> (try (refine o_fieldAddr' (by decide) rfl ?_)) <;> (try (first | refine o_load_s (v := .int _ _) (by decide) rfl rfl ?_ | refine o_load_s (by decide) rfl rfl ?_ | refine o_load_r (by decide) rfl (by assumption) ?_ | refine o_load_r (v := .int _ _) (by decide) rfl rfl ?_)) <;> (try (refine o_fieldAddr' (by decide) rfl ?_)) <;> (try (first | refine o_load_s (v := .int _ _) (by decide) rfl rfl ?_ | refine o_load_s (by decide) rfl rfl ?_ | refine o_load_r (by decide) rfl (by assumption) ?_ | refine o_load_r (v := .int _ _) (by decide) rfl rfl ?_)) <;> (try (refine o_fieldAddr' (by decide) rfl ?_)) <;> (try (first | refine o_load_s (v := .int _ _) (by decide) rfl rfl ?_ | refine o_load_s (by decide) rfl rfl ?_ | refine o_load_r (by decide) rfl (by assumption) ?_ | refine o_load_r (v := .int _ _) (by decide) rfl rfl ?_)) <;> (try (refine o_fieldAddr' (by decide) rfl ?_)) <;> (try (first | refine o_load_s (v := .slice _ _ _) (by decide) rfl rfl ?_ | refine o_load_s (by decide) rfl rfl ?_ | refine o_load_r (by decide) rfl (by assumption) ?_ | refine o_load_r (v := .slice _ _ _) (by decide) rfl rfl ?_)) <;> (try (refine o_len (by decide) rfl rfl ?_)) <;> (try ((refine o_buildSlice (cells := (hd6 (L, z, s, g, k, f)).flatMap (cw .i64)) (by decide) rfl rfl rfl (fun b22 => ?_)))) <;> (try (first | refine o_as (v := .slice _ _ _) (by decide) rfl ?_ | refine o_as (by decide) rfl ?_)) <;> (try (refine ops_nilk ?_; intro _)) <;> (try ((first | refine keep_cons (v := .pointer _) rfl ?_ | refine keep_cons (v := _) rfl ?_) <;> (first | refine keep_cons (v := .slice _ _ _) rfl ?_ | refine keep_cons (v := _) rfl ?_))) <;> (try refine keep_nil ?_))) | (refine ex_regk (id := 4) (ts := [3, 24, 25, 26]) ?_; ((try (refine o_fieldAddr' (by decide) rfl ?_)) <;> (try (first | refine o_load_s (v := .slice _ _ _) (by decide) rfl rfl ?_ | refine o_load_s (by decide) rfl rfl ?_ | refine o_load_r (by decide) rfl (by assumption) ?_ | refine o_load_r (v := .slice _ _ _) (by decide) rfl rfl ?_)) <;> (try (refine o_len (by decide) rfl rfl ?_)) <;> (try (first | refine o_mv (v := .int _ _) (by decide) rfl ?_ | refine o_mv (by decide) rfl ?_)) <;> (try (refine ops_nilk ?_; intro _)) <;> (try ((first | refine keep_cons (v := .slice _ _ _) rfl ?_ | refine keep_cons (v := _) rfl ?_) <;> (first | refine keep_cons (v := .slice _ _ _) rfl ?_ | refine keep_cons (v := _) rfl ?_) <;> (first | refine keep_cons (v := .int _ _) rfl ?_ | refine keep_cons (v := _) rfl ?_) <;> (first | refine keep_cons (v := .int _ _) rfl ?_ | refine keep_cons (v := _) rfl ?_))) <;> (try refine keep_nil ?_))) | refine ex_seq ?_ | refine ex_block ?_ | refine ex_ret ?_ | refine ex_skip ?_ | refine ex_exit ?_ | refine ex_cond_t rfl ?_ | refine ex_cond_f rfl ?_ | refine ex_cond_t (congrArg Value.bool (by assumption)) ?_ | refine ex_cond_f (congrArg Value.bool (by assumption)) ?_ | (refine ex_split rfl ?_ ?_ <;> intro hc))
    refine ex_loopE (fun mm e H' => ∃ g', ∃ i : Nat, ∃ a3, ∃ c3, e = put (put (put (put g' 3 (.slice a3 (hd6 (L, z, s, g, k, f) ++ prs (L.take i)).length c3)) 24 (.slice a L.length cap)) 25 (.int .i64 (L.length : Int))) 26 (.int .i64 (i : Int)) ∧
      H' = ow 3 1 a3 (hd6 (L, z, s, g, k, f) ++ prs (L.take i)).length c3 ((hd6 (L, z, s, g, k, f) ++ prs (L.take i)).flatMap (cw .i64)) * H ∧ i ≤ L.length ∧ mm = L.length - i) (m := L.length) ⟨_, 0, some ⟨b22, 0, none⟩, 6, rfl, rfl, by omega, by omega⟩ ?_ ?_
    · show Ent _ (ow 3 1 (some ⟨b22, 0, none⟩) 6 6 ((hd6 (L, z, s, g, k, f)).flatMap (cw .i64)) * H)
      exact ent_take
    · rintro mm e H' ⟨g', i, a3, c3, rfl, rfl, hi, rfl⟩
      by_cases hlt : i < L.length
      · have hd : decide ((i : Int) < (L.length : Int)) = true := by simp; omega
        have h0 : 0 ≤ (i : Int) := by omega
        have h1 : (i : Int) < (L.length : Int) := by omega
        refine Ex.rd_some (a := a) (l := L.flatMap oc) (by rw [flat_len oc_len]; omega) (fun ad ha => ?_)
        subst ha
        have hv : sub (L.flatMap oc) ((i : Int).toNat * 2) 2 = some (oc L[i]) := by rw [Int.toNat_natCast]; exact sub_flat oc_len L i hlt
        have ei : IntKind.i64.wrap ((i : Int) + 1) = ((i + 1 : Nat) : Int) := by rw [IntKind.wrap_i64]; omega
        have hpt := prs_take L i hlt
        have hpl := prs_len (L.take i)
        rw [List.length_take] at hpl
        have hll : (hd6 (L, z, s, g, k, f) ++ prs (L.take i)).length ≤ 18 := by rw [List.length_append]; show 6 + _ ≤ 18; omega
        generalize L[i] = o at *
        repeat' (first | (refine ex_regk (id := 5) (ts := [3, 24, 25, 26, 27]) ?_; ((try (refine o_int (by decide) rfl rfl rfl ?_)) <;> (try (refine ops_nilk ?_; intro _)) <;> (try ((first | refine keep_cons (v := .slice _ _ _) rfl ?_ | refine keep_cons (v := _) rfl ?_) <;> (first | refine keep_cons (v := .slice _ _ _) rfl ?_ | refine keep_cons (v := _) rfl ?_) <;> (first | refine keep_cons (v := .int _ _) rfl ?_ | refine keep_cons (v := _) rfl ?_) <;> (first | refine keep_cons (v := .int _ _) rfl ?_ | refine keep_cons (v := _) rfl ?_) <;> (first | refine keep_cons (v := _) rfl ?_))) <;> (try refine keep_nil ?_))) | (refine ex_regk (id := 6) (ts := [3, 5, 24, 25, 26]) ?_; ((try (refine o_index (by decide) rfl rfl (by first | decide | assumption | omega) (by first | decide | assumption | omega) ?_)) <;> (try (refine o_load_ra (vs := oc o) (by decide) rfl hv ?_)) <;> (try ((refine o_alloc_a (by decide) (fun _ => ?_)))) <;> (try (first | refine o_store_a rfl rfl rfl rfl rfl ?_ | refine o_store_oa rfl rfl rfl (Nat.succ_pos _) rfl (by assumption) ?_)) <;> (try (refine ops_nilk ?_; intro _)) <;> (try ((first | refine keep_cons (v := .slice _ _ _) rfl ?_ | refine keep_cons (v := _) rfl ?_) <;> (first | refine keep_cons (v := .pointer _) rfl ?_ | refine keep_cons (v := _) rfl ?_) <;> (first | refine keep_cons (v := .slice _ _ _) rfl ?_ | refine keep_cons (v := _) rfl ?_) <;> (first | refine keep_cons (v := .int _ _) rfl ?_ | refine keep_cons (v := _) rfl ?_) <;> (first | refine keep_cons (v := .int _ _) rfl ?_ | refine keep_cons (v := _) rfl ?_))) <;> (try refine keep_nil ?_))) | (refine ex_regk (id := 7) (ts := [3, 24, 25, 26]) ?_; ((try (first | refine o_mv (v := .slice _ _ _) (by decide) rfl ?_ | refine o_mv (by decide) rfl ?_)) <;> (try (refine o_fieldAddr' (by decide) rfl ?_)) <;> (try (first | refine o_load_s (v := .int _ _) (by decide) rfl rfl ?_ | refine o_load_s (by decide) rfl rfl ?_ | refine o_load_r (by decide) rfl (by assumption) ?_ | refine o_load_r (v := .int _ _) (by decide) rfl rfl ?_)) <;> (try (refine o_fieldAddr' (by decide) rfl ?_)) <;> (try (first | refine o_load_s (v := .int _ _) (by decide) rfl rfl ?_ | refine o_load_s (by decide) rfl rfl ?_ | refine o_load_r (by decide) rfl (by assumption) ?_ | refine o_load_r (v := .int _ _) (by decide) rfl rfl ?_)) <;> (try ((refine o_buildSlice (cells := [o.1, o.2].flatMap (cw .i64)) (by decide) rfl rfl rfl (fun b35 => ?_)))) <;> (try (refine o_appendT (cells := cw .i64) (xs := hd6 (L, z, s, g, k, f) ++ prs (L.take i)) (ys := [o.1, o.2]) cw_len cw_one (by decide) rfl rfl rfl rfl rfl (by simp only [List.length_cons, List.length_nil]; omega) (by simp only [maxLen, List.length_cons, List.length_nil]; omega) (fun a' cap' hc' => ?_))) <;> (try (first | refine o_as (v := .slice _ _ _) (by decide) rfl ?_ | refine o_as (by decide) rfl ?_)) <;> (try (refine ops_nilk ?_; intro _)) <;> (try ((first | refine keep_cons (v := .slice _ _ _) rfl ?_ | refine keep_cons (v := _) rfl ?_) <;> (first | refine keep_cons (v := .slice _ _ _) rfl ?_ | refine keep_cons (v := _) rfl ?_) <;> (first | refine keep_cons (v := .int _ _) rfl ?_ | refine keep_cons (v := _) rfl ?_) <;> (first | refine keep_cons (v := .int _ _) rfl ?_ | refine keep_cons (v := _) rfl ?_))) <;> (try refine keep_nil ?_))) | (refine ex_regk (id := 8) (ts := [3, 24, 25, 26]) ?_; ((try (refine o_int (by decide) rfl rfl rfl ?_)) <;> (try (first | refine o_mv (v := .int _ _) (by decide) rfl ?_ | refine o_mv (by decide) rfl ?_)) <;> (try (refine ops_nilk ?_; intro _)) <;> (try ((first | refine keep_cons (v := .slice _ _ _) rfl ?_ | refine keep_cons (v := _) rfl ?_) <;> (first | refine keep_cons (v := .slice _ _ _) rfl ?_ | refine keep_cons (v := _) rfl ?_) <;> (first | refine keep_cons (v := .int _ _) rfl ?_ | refine keep_cons (v := _) rfl ?_) <;> (first | refine keep_cons (v := .int _ _) rfl ?_ | refine keep_cons (v := _) rfl ?_))) <;> (try refine keep_nil ?_))) | refine ex_seq ?_ | refine ex_block ?_ | refine ex_ret ?_ | refine ex_skip ?_ | refine ex_exit ?_ | refine ex_cond_t rfl ?_ | refine ex_cond_f rfl ?_ | refine ex_cond_t (congrArg Value.bool (by assumption)) ?_ | refine ex_cond_f (congrArg Value.bool (by assumption)) ?_ | (refine ex_split rfl ?_ ?_ <;> intro hc))
        rw [ei]
        have hcat : (hd6 (L, z, s, g, k, f) ++ prs (L.take i)) ++ [o.1, o.2] = hd6 (L, z, s, g, k, f) ++ prs (L.take (i + 1)) := by rw [hpt, List.append_assoc]
        rw [hcat]
        refine ⟨L.length - (i + 1), by omega, _, ?_, _, i + 1, a', cap', rfl, rfl, by omega, rfl⟩
        exact ent_take
      · have hil : i = L.length := by omega
        subst hil
        have hd : decide ((L.length : Int) < (L.length : Int)) = false := by simp
        rw [List.take_length, show hd6 (L, z, s, g, k, f) ++ prs L = pl (L, z, s, g, k, f) from rfl]
        have hpll : (pl (L, z, s, g, k, f)).length = 6 + 2 * L.length := pl_len (L, z, s, g, k, f)
        repeat' (first | (refine ex_regk (id := 5) (ts := [3, 24, 25, 26, 27]) ?_; ((try (refine o_int (by decide) rfl rfl rfl ?_)) <;> (try (refine ops_nilk ?_; intro _)) <;> (try ((first | refine keep_cons (v := .slice _ _ _) rfl ?_ | refine keep_cons (v := _) rfl ?_) <;> (first | refine keep_cons (v := .slice _ _ _) rfl ?_ | refine keep_cons (v := _) rfl ?_) <;> (first | refine keep_cons (v := .int _ _) rfl ?_ | refine keep_cons (v := _) rfl ?_) <;> (first | refine keep_cons (v := .int _ _) rfl ?_ | refine keep_cons (v := _) rfl ?_) <;> (first | refine keep_cons (v := _) rfl ?_))) <;> (try refine keep_nil ?_))) | (refine ex_regk (id := 9) (ts := [2]) ?_; ((try (first | refine o_mv (v := .slice _ _ _) (by decide) rfl ?_ | refine o_mv (by decide) rfl ?_)) <;> (try ((refine o_callH (put_ _ _ (pl (L, z, s, g, k, f)) _ _ rfl rfl (by omega) (hw hp)) (by first | exact True.intro | (show _ < _; decide)) rfl rfl (fun y hy => ?_); obtain ⟨ya, yc⟩ := y))) <;> (try (first | refine o_as (v := .slice _ _ _) (by decide) rfl ?_ | refine o_as (by decide) rfl ?_)) <;> (try (refine ops_nilk ?_; intro _)) <;> (try ((first | refine keep_cons (v := .slice _ _ _) rfl ?_ | refine keep_cons (v := _) rfl ?_))) <;> (try refine keep_nil ?_))) | refine ex_seq ?_ | refine ex_block ?_ | refine ex_ret ?_ | refine ex_skip ?_ | refine ex_exit ?_ | refine ex_cond_t rfl ?_ | refine ex_cond_f rfl ?_ | refine ex_cond_t (congrArg Value.bool (by assumption)) ?_ | refine ex_cond_f (congrArg Value.bool (by assumption)) ?_ | (refine ex_split rfl ?_ ?_ <;> intro hc))
        exact fin (.inr rfl) (ya, yc) (resl1 rfl (rv_tmp rfl)) hy ent_take
end Go.Proofs.YtelholihncbfkaaS
