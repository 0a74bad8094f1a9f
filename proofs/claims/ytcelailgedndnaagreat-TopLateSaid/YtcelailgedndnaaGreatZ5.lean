/- Contracts of the functions that the statement reaches: the walk of the program by the small logic, part 5: LI, C1, Tx, C3, N3, C4, Sz, RP, R4. No condition beyond what each theorem states. -/
import Derived.Test.YtcelailgedndnaaGreatZ4
namespace Go.Proofs.YtcelailgedndnaaGreatS
open Go.RowKit
set_option linter.unusedVariables false
set_option linter.unusedSimpArgs false
def pput (k : Int) (P : Pm) (p : Pl) (v : Int) (l : BitVec 64) : Pm :=
  let x := (pget P p).getD (0, 0, 0)
  pset P p (IntKind.i64.wrap (x.1 + 1), tk x.1 k x.2.1 v 1, x.2.2 ||| l)
def putL (k : Int) (ky v : Int) (l : BitVec 64) (P : Pm) (L : List Int) : Pm := L.foldl (fun P s => pput k P (s, ky) v l) P
def putE (sz sl k : Int) (P : Pm) (e : R.Ev) : Pm := putL k e.2.1 e.2.2.1 e.2.2.2 P (starts e.1 sz sl)
theorem pset_len (P : Pm) (p : Pl) (v : Pt) : (pset P p v).length ≤ P.length + 1 := by
  induction P with
  | nil => exact Nat.le_refl _
  | cons x P ih =>
    unfold pset
    split
    · simp
    · simp; omega
theorem pset_keys (P : Pm) (p : Pl) (v : Pt) : (pset P p v).map (·.1) = if p ∈ P.map (·.1) then P.map (·.1) else P.map (·.1) ++ [p] := by
  induction P with
  | nil => rfl
  | cons x P ih =>
    unfold pset
    by_cases h : p = x.1
    · rw [if_pos h, if_pos (by simp [h])]; simp [h]
    · rw [if_neg h, List.map_cons, ih]
      by_cases h2 : p ∈ P.map (·.1)
      · rw [if_pos h2, if_pos (by simp only [List.map_cons]; exact List.mem_cons_of_mem _ h2)]; rfl
      · rw [if_neg h2, if_neg (by simp only [List.map_cons]; intro h3; rcases List.mem_cons.1 h3 with h3 | h3; exact h h3; exact h2 h3)]; rfl
theorem pset_nodup {P : Pm} {p : Pl} {v : Pt} (h : (P.map (·.1)).Nodup) : ((pset P p v).map (·.1)).Nodup := by
  rw [pset_keys]
  split
  · exact h
  · rename_i h2
    rw [List.nodup_append]
    exact ⟨h, by simp, by intro a ha b hb e; simp at hb; exact h2 (by rw [← hb, ← e]; exact ha)⟩
theorem pdel_nodup {P : Pm} {p : Pl} (h : (P.map (·.1)).Nodup) : ((pdel P p).map (·.1)).Nodup := by
  have hs : List.Sublist ((pdel P p).map (·.1)) (P.map (·.1)) := by
    clear h
    induction P with
    | nil => exact List.Sublist.refl _
    | cons x P ih =>
      have e : pdel (x :: P) p = if p = x.1 then P else x :: pdel P p := rfl
      rw [e]
      split
      · exact List.sublist_cons_self _ _
      · exact List.Sublist.cons_cons _ ih
  exact hs.nodup h
theorem putL_len (k ky v : Int) (l : BitVec 64) : ∀ (L : List Int) (P : Pm), (putL k ky v l P L).length ≤ P.length + L.length
  | [], P => Nat.le_refl _
  | s :: L, P => by
    have h := putL_len k ky v l L (pput k P (s, ky) v l)
    have h2 : (pput k P (s, ky) v l).length ≤ P.length + 1 := pset_len _ _ _
    show (putL k ky v l (pput k P (s, ky) v l) L).length ≤ _
    rw [List.length_cons]; omega
theorem putL_nodup (k ky v : Int) (l : BitVec 64) : ∀ (L : List Int) (P : Pm), (P.map (·.1)).Nodup → ((putL k ky v l P L).map (·.1)).Nodup
  | [], _, h => h
  | s :: L, P, h => putL_nodup k ky v l L _ (pset_nodup h)
theorem putE_len (sz sl k : Int) (P : Pm) (e : R.Ev) : (putE sz sl k P e).length ≤ P.length + 8 := Nat.le_trans (putL_len _ _ _ _ _ _) (Nat.add_le_add_left (starts_len _ _ _) _)
theorem putE_nodup (sz sl k : Int) {P : Pm} (e : R.Ev) (h : (P.map (·.1)).Nodup) : ((putE sz sl k P e).map (·.1)).Nodup := putL_nodup _ _ _ _ _ _ h
theorem fold_nodup : ∀ (l : List Pl) (P : Pm), (P.map (·.1)).Nodup → ((l.foldl pdel P).map (·.1)).Nodup
  | [], _, h => h
  | q :: l, P, h => fold_nodup l _ (pdel_nodup h)
theorem clP_nodup {sz m : Int} {P : Pm} (h : (P.map (·.1)).Nodup) : ((clP sz m P).map (·.1)).Nodup := fold_nodup _ _ h
theorem clP_len (sz m : Int) (P : Pm) : (clP sz m P).length ≤ P.length := fold_len _ _
theorem clR_len (sz m : Int) (P : Pm) : (clR sz m P).length ≤ P.length := by
  unfold clR; rw [List.length_map]; exact Nat.le_trans (List.length_filter_le _ _) (Nat.le_of_eq (pkeys_len P))
set_option linter.unusedVariables false
set_option linter.unusedSimpArgs false
attribute [local irreducible] Ops Ex Spec T V QO OA Rn OS
set_option maxRecDepth 100000 in
set_option maxHeartbeats 8000000 in
theorem pnPut {X H : HP} (b mb : Nat) (s d k : Int) (P : Pm) (e : R.Ev) (a : Option Addr) (cap : Nat) [t : Take (PT b mb s d k P) X H] [hr : RdC H a (R.ec e)] :
    Spec Tryz.prog 108 [.pointer (some ⟨b, 0, none⟩), .slice a 1 cap] X (X := Unit) (fun _ => .tuple #[]) (fun _ => True) (fun _ => PT b mb s d k (putE s d k P e) * H) := by
  obtain ⟨tm, ky, vl, lb⟩ := e
  rw [t.eq]; unfold PT PN; rw [sep_assoc]
  have hv : sub (R.ec (tm, ky, vl, lb)) ((0 : Int).toNat * 4) 4 = some (R.ec (tm, ky, vl, lb)) := rfl
  have e1 : IntKind.i64.wrap (0 + 1) = 1 := rfl
  have d0 : decide ((0 : Int) < 1) = true := rfl
  have d1 : decide ((1 : Int) < 1) = false := rfl
  refine spec_of Tryz.func108 rfl Tryz.ntmps108 rfl ?_
  refine Ex.rd_some (a := a) (l := R.ec (tm, ky, vl, lb)) (by simp [R.ec]) (fun ad ha => ?_)
  subst ha
  repeat' (first | (refine rG 0 [0, 11, 12, 13] ?_; ((try (refine wK ?_; intro _)))) | refine wC ?_ | (refine ex_split rfl ?_ ?_ <;> intro hc))
  refine ex_rounds 2 ?_
  refine rn_succ ?_
  repeat' (first | (refine rG 1 [0, 11, 12, 13, 14] ?_; ((try (refine wK ?_; intro _)))) | (refine ex_regk (id := 2) (ts := [0, 5, 11, 12, 13]) ?_; ((try (refine o_index (by decide) rfl rfl (by first | decide | assumption | omega) (by first | decide | assumption | omega) ?_)) <;> (try (refine o_load_ra (vs := R.ec (tm, ky, vl, lb)) (by decide) rfl hv ?_)) <;> (try ((refine o_alloc_a (by decide) (fun b5 => ?_)))) <;> (try (first | refine o_store_a rfl rfl rfl rfl rfl ?_ | refine o_store_oa rfl rfl rfl (Nat.succ_pos _) rfl (by assumption) ?_)) <;> (try (refine ops_nilk ?_; intro _)) <;> (try ((first | refine keep_cons (v := .pointer _) rfl ?_ | refine keep_cons (v := _) rfl ?_) <;> (first | refine keep_cons (v := .pointer _) rfl ?_ | refine keep_cons (v := _) rfl ?_) <;> (first | refine keep_cons (v := .slice _ _ _) rfl ?_ | refine keep_cons (v := _) rfl ?_) <;> (first | refine keep_cons (v := .int _ _) rfl ?_ | refine keep_cons (v := _) rfl ?_) <;> (first | refine keep_cons (v := .int _ _) rfl ?_ | refine keep_cons (v := _) rfl ?_))) <;> (try refine keep_nil ?_))) | refine wC ?_ | (refine ex_split rfl ?_ ?_ <;> intro hc))
  refine Ex.ent ?_ (ent_clL (b := b5) (l' := R.ec (tm, ky, vl, lb)) rfl)
  repeat' (first | (refine rA 3 [0, 5, 11, 12, 13, 27, 28, 29] 13 ?_; (refine os_all ?_); ((refine lQ 0 ?_; ((refine lQ 1 ?_; ((refine lQ 2 ?_; ((refine lQ 3 ?_; ((refine lQ 4 ?_; ((refine lQ 5 ?_; ((refine lQ 6 ?_; ((refine lQ 7 ?_; ((refine lQ 8 ?_; ((refine lQ 9 ?_; ((refine lQ 12 ?_; ((refine oN 10 ?_ <;> ((refine o_callH (startsS _ tm s d) (by first | exact True.intro | (show _ < _; decide)) rfl rfl (fun y hy => ?_); obtain ⟨sa, sc_⟩ := y)) <;> (refine os_nil ?_) <;> ((refine lQ 11 ?_; ((refine dK ?_; intro _))))))))))))))))))))))))))))) | refine wC ?_ | (refine ex_split rfl ?_ ?_ <;> intro hc))
  have hsl := starts_len tm s d
  unfold putE
  generalize starts tm s d = L at *
  refine ex_loopE (fun mm e H' => ∃ g, ∃ i : Nat, ∃ Q : Pm, e = put (put (put (put (put (put (put (put g 0 (.pointer (some ⟨b, 0, none⟩))) 5 (.pointer (some ⟨b5, 0, none⟩))) 11 (.slice (some ad) 1 cap)) 12 (.int .i64 1)) 13 (.int .i64 0)) 27 (.slice sa L.length sc_)) 28 (.int .i64 (L.length : Int))) 29 (.int .i64 (i : Int)) ∧
    H' = cl true b [.int .i64 s, .int .i64 d, .int .i64 k, .map (some mb)] 114 (0, 0) * (pm mb (TM k Q) * (ow 3 1 sa L.length sc_ (L.flatMap (cw .i64)) * (cl true b5 (R.ec (tm, ky, vl, lb)) 37 (0, 0) * H))) ∧ Q = putL k ky vl lb P (L.take i) ∧ i ≤ L.length ∧ mm = L.length - i) (m := L.length) ⟨_, 0, P, rfl, rfl, by simp [putL], by omega, by omega⟩ ?_ ?_
  · exact ent_take
  · rintro mm e H' ⟨g, i, Q, rfl, rfl, hQ, hi, rfl⟩
    by_cases hlt : i < L.length
    · have hd : decide ((i : Int) < (L.length : Int)) = true := by simp; omega
      have h0 : 0 ≤ (i : Int) := by omega
      have h1 : (i : Int) < (L.length : Int) := by omega
      have ei : IntKind.i64.wrap ((i : Int) + 1) = ((i + 1 : Nat) : Int) := by rw [IntKind.wrap_i64]; omega
      refine Ex.rd_some (a := sa) (l := L.flatMap (cw .i64)) (by rw [cw_flat]; omega) (fun sd hsa => ?_)
      subst hsa
      have hvs := cw_get (k := .i64) hlt
      have hQ1 : pput k Q (L[i], ky) vl lb = putL k ky vl lb P (L.take (i + 1)) := by
        rw [List.take_succ_eq_append_getElem hlt]; unfold putL; rw [List.foldl_append, hQ]; rfl
      generalize L[i] = S at *
      have hg := tm_get k Q (S, ky)
      unfold pput at hQ1
      cases hq : pget Q (S, ky) with
      | none =>
        rw [hq] at hg hQ1
        have hg : mget (TM k Q) (S, ky) = none := hg
        have hQ1 : pset Q (S, ky) (IntKind.i64.wrap (0 + 1), tk 0 k 0 vl 1, 0 ||| lb) = _ := hQ1
        repeat' (first | (refine rG 4 [0, 5, 11, 12, 13, 27, 28, 29, 30] ?_; ((try (refine wK ?_; intro _)))) | (refine ex_regk (id := 5) (ts := [0, 5, 7, 11, 12, 13, 27, 28, 29]) ?_; ((try (refine o_index (by decide) rfl rfl (by first | decide | assumption | omega) (by first | decide | assumption | omega) ?_)) <;> (try (refine o_load_r (by decide) rfl hvs ?_)) <;> (try (first | refine o_as (v := .int _ _) (by decide) rfl ?_ | refine o_as (by decide) rfl ?_)) <;> (try (refine ops_nilk ?_; intro _)) <;> (try ((first | refine keep_cons (v := .pointer _) rfl ?_ | refine keep_cons (v := _) rfl ?_) <;> (first | refine keep_cons (v := .pointer _) rfl ?_ | refine keep_cons (v := _) rfl ?_) <;> (first | refine keep_cons (v := .int _ _) rfl ?_ | refine keep_cons (v := _) rfl ?_) <;> (first | refine keep_cons (v := .slice _ _ _) rfl ?_ | refine keep_cons (v := _) rfl ?_) <;> (first | refine keep_cons (v := .int _ _) rfl ?_ | refine keep_cons (v := _) rfl ?_) <;> (first | refine keep_cons (v := .int _ _) rfl ?_ | refine keep_cons (v := _) rfl ?_) <;> (first | refine keep_cons (v := .slice _ _ _) rfl ?_ | refine keep_cons (v := _) rfl ?_) <;> (first | refine keep_cons (v := .int _ _) rfl ?_ | refine keep_cons (v := _) rfl ?_) <;> (first | refine keep_cons (v := .int _ _) rfl ?_ | refine keep_cons (v := _) rfl ?_))) <;> (try refine keep_nil ?_))) | refine wC ?_ | (refine ex_split rfl ?_ ?_ <;> intro hc))
        repeat' (first | (refine rG 6 [0, 5, 8, 11, 12, 13, 27, 28, 29] ?_; ((try refine wO ?_) <;> (try ((refine o_alloc_a (by decide) (fun b8 => ?_)))) <;> (try (refine wK ?_; intro _)))) | refine wC ?_ | (refine ex_split rfl ?_ ?_ <;> intro hc))
        refine Ex.ent ?_ (ent_clL (b := b8) (l' := plc (S, ky)) rfl)
        repeat' (first | (refine rA 7 [0, 5, 8, 9, 10, 11, 12, 13, 27, 28, 29] 12 ?_; (refine os_all ?_); ((refine lQ 0 ?_; ((refine lQ 1 ?_; ((refine lQ 2 ?_; ((refine lQ 3 ?_; ((refine lC (v := ?_) 4 ?_ ?_; rotate_left; (focus ((refine o_load_a (vs := plc (S, ky)) (by decide) rfl rfl ?_) <;> exact lL)); ((refine os_two 5 9 (by kernel_rfl) rfl rfl ?_ ?_ <;> first | (refine os_sel (d := some 43) rfl ?_ <;> (refine o_lookup2 (b := mb) (M := TM k Q) (p := (S, ky)) (by decide) rfl rfl hg ?_) <;> (refine os_nil ?_) <;> ((refine lQ 6 ?_; ((refine lQ 7 ?_; ((refine lQ 8 ?_; ((refine oN 9 ?_ <;> ((refine o_alloc_a (by decide) (fun b9 => ?_))) <;> (refine os_nil ?_) <;> ((refine oN 10 ?_ <;> (refine wO ?_) <;> (refine os_nil ?_) <;> ((refine lQ 11 ?_; ((refine dK ?_; intro _))))))))))))))) | (refine os_sel (d := some 9) rfl ?_ <;> ((refine o_alloc_a (by decide) (fun b9 => ?_))) <;> (refine os_nil ?_) <;> ((refine oN 5 ?_ <;> (refine o_lookup2 (b := mb) (M := TM k Q) (p := (S, ky)) (by decide) rfl rfl hg ?_) <;> (refine os_nil ?_) <;> ((refine lQ 6 ?_; ((refine lQ 7 ?_; ((refine lQ 8 ?_; ((refine oN 10 ?_ <;> (refine wO ?_) <;> (refine os_nil ?_) <;> ((refine lQ 11 ?_; ((refine dK ?_; intro _)))))))))))))))))))))))))))) | refine wC ?_ | (refine ex_split rfl ?_ ?_ <;> intro hc))
        all_goals
          refine Ex.ent ?_ (ent_clL (b := b9) (l' := pcl 0 (0, 0, 0)) rfl)
          repeat' (first | (refine rG 8 [0, 5, 8, 9, 11, 12, 13, 27, 28, 29, 47] ?_; ((try (refine wK ?_; intro _)))) | (refine rG 9 [0, 5, 8, 9, 11, 12, 13, 27, 28, 29] ?_; ((try refine wO ?_) <;> (try (refine o_call (aggnew k) (by first | exact True.intro | (show _ < _; decide)) rfl rfl (fun _ _ => ?_))) <;> (try (refine wK ?_; intro _)))) | refine wC ?_ | (refine ex_split rfl ?_ ?_ <;> intro hc))
          refine Ex.ent ?_ (ent_clL (b := b9) (l' := pcl k (0, 0, 0)) rfl)
          repeat' (first | (refine ex_regk (id := 10) (ts := [0, 5, 8, 9, 11, 12, 13, 27, 28, 29]) ?_; ((try (refine o_fieldAddr' (by decide) rfl ?_)) <;> (try ((refine o_fieldAddr' (by decide) rfl ?_))) <;> (try (first | refine o_load_s (v := .int _ _) (by decide) rfl rfl ?_ | refine o_load_s (by decide) rfl rfl ?_ | refine o_load_r (by decide) rfl (by assumption) ?_ | refine o_load_r (v := .int _ _) (by decide) rfl rfl ?_)) <;> (try ((refine o_buildSlice (by decide) rfl rfl rfl (fun _ => ?_)))) <;> (try (refine o_callBR (by first | exact True.intro | (show _ < _; decide)) rfl rfl rfl (add1 _ _ _ _ _ _ _ _ _ _) (fun _ _ => ?_))) <;> (try (refine ops_nilk ?_; intro _)) <;> (try ((first | refine keep_cons (v := .pointer _) rfl ?_ | refine keep_cons (v := _) rfl ?_) <;> (first | refine keep_cons (v := .pointer _) rfl ?_ | refine keep_cons (v := _) rfl ?_) <;> (first | refine keep_cons (v := .pointer _) rfl ?_ | refine keep_cons (v := _) rfl ?_) <;> (first | refine keep_cons (v := .pointer _) rfl ?_ | refine keep_cons (v := _) rfl ?_) <;> (first | refine keep_cons (v := .slice _ _ _) rfl ?_ | refine keep_cons (v := _) rfl ?_) <;> (first | refine keep_cons (v := .int _ _) rfl ?_ | refine keep_cons (v := _) rfl ?_) <;> (first | refine keep_cons (v := .int _ _) rfl ?_ | refine keep_cons (v := _) rfl ?_) <;> (first | refine keep_cons (v := .slice _ _ _) rfl ?_ | refine keep_cons (v := _) rfl ?_) <;> (first | refine keep_cons (v := .int _ _) rfl ?_ | refine keep_cons (v := _) rfl ?_) <;> (first | refine keep_cons (v := .int _ _) rfl ?_ | refine keep_cons (v := _) rfl ?_))) <;> (try refine keep_nil ?_))) | (refine rG 11 [0, 5, 8, 9, 11, 12, 13, 27, 28, 29] ?_; ((try refine wO ?_) <;> (try ((refine o_buildSlice (by decide) rfl rfl rfl (fun _ => ?_)))) <;> (try (refine o_callH (join_ _ _ [(0 : BitVec 64), lb] _ _ rfl rfl (by simp)) (by first | exact True.intro | (show _ < _; decide)) rfl rfl (fun _ _ => ?_))) <;> (try (refine wK ?_; intro _)))) | refine wC ?_ | (refine ex_split rfl ?_ ?_ <;> intro hc))
          rw [jn2e]
          refine Ex.ent ?_ (ent_clL (b := b9) (l' := pcl k (IntKind.i64.wrap (0 + 1), tk 0 k 0 vl 1, 0 ||| lb)) rfl)
          repeat' (first | (refine rA 12 [0, 5, 11, 12, 13, 27, 28, 29] 7 ?_; (refine os_butP (pm mb (TM k Q)) ?_); ((refine lQ 0 ?_; ((refine lQ 1 ?_; ((refine lQ 2 ?_; ((refine lQ 3 ?_; ((refine lC (v := ?_) 4 ?_ ?_; rotate_left; (focus ((refine o_load_a (vs := plc (S, ky)) (by decide) rfl rfl ?_) <;> exact lL)); ((refine lC (v := ?_) 5 ?_ ?_; rotate_left; (focus ((refine o_load_a (vs := pcl k (IntKind.i64.wrap (0 + 1), tk 0 k 0 vl 1, 0 ||| lb)) (by decide) rfl rfl ?_) <;> exact lL)); ((refine oN 6 ?_ <;> (refine o_pmPut (b := mb) (M := TM k Q) (p := (S, ky)) (v := .agg (pcl k (IntKind.i64.wrap (0 + 1), tk 0 k 0 vl 1, 0 ||| lb)).toArray) rfl rfl rfl ?_) <;> (refine os_nil ?_) <;> ((refine dK ?_; intro _))))))))))))))))) | refine wC ?_ | (refine ex_split rfl ?_ ?_ <;> intro hc))
          all_goals
            rw [tm_set, hQ1]
            repeat' (first | (refine rG 13 [0, 5, 11, 12, 13, 27, 28, 29] ?_; ((try (refine wK ?_; intro _)))) | refine wC ?_ | (refine ex_split rfl ?_ ?_ <;> intro hc))
            rw [ei]
            refine ⟨L.length - (i + 1), by omega, _, ?_, _, i + 1, _, rfl, rfl, rfl, by omega, rfl⟩
            exact ent_take
      | some x =>
        obtain ⟨c, x, w⟩ := x
        rw [hq] at hg hQ1
        have hg : mget (TM k Q) (S, ky) = some (.agg (pcl k (c, x, w)).toArray) := hg
        have hQ1 : pset Q (S, ky) (IntKind.i64.wrap (c + 1), tk c k x vl 1, w ||| lb) = _ := hQ1
        repeat' (first | (refine rG 4 [0, 5, 11, 12, 13, 27, 28, 29, 30] ?_; ((try (refine wK ?_; intro _)))) | (refine ex_regk (id := 5) (ts := [0, 5, 7, 11, 12, 13, 27, 28, 29]) ?_; ((try (refine o_index (by decide) rfl rfl (by first | decide | assumption | omega) (by first | decide | assumption | omega) ?_)) <;> (try (refine o_load_r (by decide) rfl hvs ?_)) <;> (try (first | refine o_as (v := .int _ _) (by decide) rfl ?_ | refine o_as (by decide) rfl ?_)) <;> (try (refine ops_nilk ?_; intro _)) <;> (try ((first | refine keep_cons (v := .pointer _) rfl ?_ | refine keep_cons (v := _) rfl ?_) <;> (first | refine keep_cons (v := .pointer _) rfl ?_ | refine keep_cons (v := _) rfl ?_) <;> (first | refine keep_cons (v := .int _ _) rfl ?_ | refine keep_cons (v := _) rfl ?_) <;> (first | refine keep_cons (v := .slice _ _ _) rfl ?_ | refine keep_cons (v := _) rfl ?_) <;> (first | refine keep_cons (v := .int _ _) rfl ?_ | refine keep_cons (v := _) rfl ?_) <;> (first | refine keep_cons (v := .int _ _) rfl ?_ | refine keep_cons (v := _) rfl ?_) <;> (first | refine keep_cons (v := .slice _ _ _) rfl ?_ | refine keep_cons (v := _) rfl ?_) <;> (first | refine keep_cons (v := .int _ _) rfl ?_ | refine keep_cons (v := _) rfl ?_) <;> (first | refine keep_cons (v := .int _ _) rfl ?_ | refine keep_cons (v := _) rfl ?_))) <;> (try refine keep_nil ?_))) | refine wC ?_ | (refine ex_split rfl ?_ ?_ <;> intro hc))
        repeat' (first | (refine rG 6 [0, 5, 8, 11, 12, 13, 27, 28, 29] ?_; ((try refine wO ?_) <;> (try ((refine o_alloc_a (by decide) (fun b8 => ?_)))) <;> (try (refine wK ?_; intro _)))) | refine wC ?_ | (refine ex_split rfl ?_ ?_ <;> intro hc))
        refine Ex.ent ?_ (ent_clL (b := b8) (l' := plc (S, ky)) rfl)
        repeat' (first | (refine rA 7 [0, 5, 8, 9, 10, 11, 12, 13, 27, 28, 29] 12 ?_; (refine os_all ?_); ((refine lQ 0 ?_; ((refine lQ 1 ?_; ((refine lQ 2 ?_; ((refine lQ 3 ?_; ((refine lC (v := ?_) 4 ?_ ?_; rotate_left; (focus ((refine o_load_a (vs := plc (S, ky)) (by decide) rfl rfl ?_) <;> exact lL)); ((refine os_two 5 9 (by kernel_rfl) rfl rfl ?_ ?_ <;> first | (refine os_sel (d := some 43) rfl ?_ <;> (refine o_lookup2 (b := mb) (M := TM k Q) (p := (S, ky)) (by decide) rfl rfl hg ?_) <;> (refine os_nil ?_) <;> ((refine lQ 6 ?_; ((refine lQ 7 ?_; ((refine lQ 8 ?_; ((refine oN 9 ?_ <;> ((refine o_alloc_a (by decide) (fun b9 => ?_))) <;> (refine os_nil ?_) <;> ((refine oN 10 ?_ <;> (refine wO ?_) <;> (refine os_nil ?_) <;> ((refine lQ 11 ?_; ((refine dK ?_; intro _))))))))))))))) | (refine os_sel (d := some 9) rfl ?_ <;> ((refine o_alloc_a (by decide) (fun b9 => ?_))) <;> (refine os_nil ?_) <;> ((refine oN 5 ?_ <;> (refine o_lookup2 (b := mb) (M := TM k Q) (p := (S, ky)) (by decide) rfl rfl hg ?_) <;> (refine os_nil ?_) <;> ((refine lQ 6 ?_; ((refine lQ 7 ?_; ((refine lQ 8 ?_; ((refine oN 10 ?_ <;> (refine wO ?_) <;> (refine os_nil ?_) <;> ((refine lQ 11 ?_; ((refine dK ?_; intro _)))))))))))))))))))))))))))) | refine wC ?_ | (refine ex_split rfl ?_ ?_ <;> intro hc))
        all_goals
          refine Ex.ent ?_ (ent_clL (b := b9) (l' := pcl k (c, x, w)) rfl)
          repeat' (first | (refine rG 8 [0, 5, 8, 9, 11, 12, 13, 27, 28, 29, 47] ?_; ((try (refine wK ?_; intro _)))) | (refine ex_regk (id := 10) (ts := [0, 5, 8, 9, 11, 12, 13, 27, 28, 29]) ?_; ((try (refine o_fieldAddr' (by decide) rfl ?_)) <;> (try ((refine o_fieldAddr' (by decide) rfl ?_))) <;> (try (first | refine o_load_s (v := .int _ _) (by decide) rfl rfl ?_ | refine o_load_s (by decide) rfl rfl ?_ | refine o_load_r (by decide) rfl (by assumption) ?_ | refine o_load_r (v := .int _ _) (by decide) rfl rfl ?_)) <;> (try ((refine o_buildSlice (by decide) rfl rfl rfl (fun _ => ?_)))) <;> (try (refine o_callBR (by first | exact True.intro | (show _ < _; decide)) rfl rfl rfl (add1 _ _ _ _ _ _ _ _ _ _) (fun _ _ => ?_))) <;> (try (refine ops_nilk ?_; intro _)) <;> (try ((first | refine keep_cons (v := .pointer _) rfl ?_ | refine keep_cons (v := _) rfl ?_) <;> (first | refine keep_cons (v := .pointer _) rfl ?_ | refine keep_cons (v := _) rfl ?_) <;> (first | refine keep_cons (v := .pointer _) rfl ?_ | refine keep_cons (v := _) rfl ?_) <;> (first | refine keep_cons (v := .pointer _) rfl ?_ | refine keep_cons (v := _) rfl ?_) <;> (first | refine keep_cons (v := .slice _ _ _) rfl ?_ | refine keep_cons (v := _) rfl ?_) <;> (first | refine keep_cons (v := .int _ _) rfl ?_ | refine keep_cons (v := _) rfl ?_) <;> (first | refine keep_cons (v := .int _ _) rfl ?_ | refine keep_cons (v := _) rfl ?_) <;> (first | refine keep_cons (v := .slice _ _ _) rfl ?_ | refine keep_cons (v := _) rfl ?_) <;> (first | refine keep_cons (v := .int _ _) rfl ?_ | refine keep_cons (v := _) rfl ?_) <;> (first | refine keep_cons (v := .int _ _) rfl ?_ | refine keep_cons (v := _) rfl ?_))) <;> (try refine keep_nil ?_))) | (refine rG 11 [0, 5, 8, 9, 11, 12, 13, 27, 28, 29] ?_; ((try refine wO ?_) <;> (try ((refine o_buildSlice (by decide) rfl rfl rfl (fun _ => ?_)))) <;> (try (refine o_callH (join_ _ _ [w, lb] _ _ rfl rfl (by simp)) (by first | exact True.intro | (show _ < _; decide)) rfl rfl (fun _ _ => ?_))) <;> (try (refine wK ?_; intro _)))) | refine wC ?_ | (refine ex_split rfl ?_ ?_ <;> intro hc))
          rw [jn2e]
          refine Ex.ent ?_ (ent_clL (b := b9) (l' := pcl k (IntKind.i64.wrap (c + 1), tk c k x vl 1, w ||| lb)) rfl)
          repeat' (first | (refine rA 12 [0, 5, 11, 12, 13, 27, 28, 29] 7 ?_; (refine os_butP (pm mb (TM k Q)) ?_); ((refine lQ 0 ?_; ((refine lQ 1 ?_; ((refine lQ 2 ?_; ((refine lQ 3 ?_; ((refine lC (v := ?_) 4 ?_ ?_; rotate_left; (focus ((refine o_load_a (vs := plc (S, ky)) (by decide) rfl rfl ?_) <;> exact lL)); ((refine lC (v := ?_) 5 ?_ ?_; rotate_left; (focus ((refine o_load_a (vs := pcl k (IntKind.i64.wrap (c + 1), tk c k x vl 1, w ||| lb)) (by decide) rfl rfl ?_) <;> exact lL)); ((refine oN 6 ?_ <;> (refine o_pmPut (b := mb) (M := TM k Q) (p := (S, ky)) (v := .agg (pcl k (IntKind.i64.wrap (c + 1), tk c k x vl 1, w ||| lb)).toArray) rfl rfl rfl ?_) <;> (refine os_nil ?_) <;> ((refine dK ?_; intro _))))))))))))))))) | refine wC ?_ | (refine ex_split rfl ?_ ?_ <;> intro hc))
          all_goals
            rw [tm_set, hQ1]
            repeat' (first | (refine rG 13 [0, 5, 11, 12, 13, 27, 28, 29] ?_; ((try (refine wK ?_; intro _)))) | refine wC ?_ | (refine ex_split rfl ?_ ?_ <;> intro hc))
            rw [ei]
            refine ⟨L.length - (i + 1), by omega, _, ?_, _, i + 1, _, rfl, rfl, rfl, by omega, rfl⟩
            exact ent_take
    · have hil : i = L.length := by omega
      subst hil
      have hd : decide ((L.length : Int) < (L.length : Int)) = false := by simp
      rw [List.take_length] at hQ
      rw [hQ]
      repeat' (first | (refine rG 4 [0, 5, 11, 12, 13, 27, 28, 29, 30] ?_; ((try (refine wK ?_; intro _)))) | (refine rG 14 [0, 11, 12, 13] ?_; ((try (refine wK ?_; intro _)))) | refine wC ?_ | (refine ex_split rfl ?_ ?_ <;> intro hc))
      rw [e1]
      refine rn_succ ?_
      repeat' (first | (refine rG 1 [0, 11, 12, 13, 14] ?_; ((try (refine wK ?_; intro _)))) | refine wC ?_ | (refine ex_split rfl ?_ ?_ <;> intro hc))
      exact fin (.inl rfl) () (resl0 rfl) trivial ent_take
end Go.Proofs.YtcelailgedndnaaGreatS
namespace Go.Proofs.YtcelailgedndnaaGreatS
open Go.RowKit
set_option linter.unusedVariables false
set_option linter.unusedSimpArgs false
def far : Int := 1099512676352
/-- A clock behind an event: its mark stays; how many are late, how many it saw, is it on. -/
def onF (time m l s : Int) : Int × Int × Bool :=
  if decide (time < 0) || decide (time > tmax) then (l, s, false) else if decide (time < m) then (IntKind.i64.wrap (l + 1), IntKind.i64.wrap (s + 1), false) else (l, IntKind.i64.wrap (s + 1), true)
def adF (time m : Int) : Bool := !(decide (time ≤ m) || decide (time > far))
set_option linter.unusedVariables false
set_option linter.unusedSimpArgs false
attribute [local irreducible] Ops Ex Spec T V QO OA Rn OS
theorem clOn (b : Nat) (m l s time : Int) (v3 v4 v5 v6 v7 v8 v9 : Value) (t) : Spec Tryz.prog 106 [.pointer (some ⟨b, 0, none⟩), .int .i64 time] (cl true b [.int .i64 m, .int .i64 l, .int .i64 s, v3, v4, v5, v6, v7, v8, v9] t (0, 0)) (X := Unit) (fun _ => .bool (onF time m l s).2.2) (fun _ => True)
    (fun _ => cl true b [.int .i64 m, .int .i64 (onF time m l s).1, .int .i64 (onF time m l s).2.1, v3, v4, v5, v6, v7, v8, v9] t (0, 0)) := by
  by_cases h0 : time < 0
  · have d0 : decide (time < 0) = true := decide_eq_true h0
    have e : onF time m l s = (l, s, false) := by unfold onF; rw [d0]; rfl
    rw [e]
    refine spec_of Tryz.func106 rfl Tryz.ntmps106 rfl ?_
    repeat' (first | (refine rG 0 [0, 1] ?_; ((try (refine wK ?_; intro _)))) | (refine rG 1 [0, 1, 10] ?_; ((try refine wO ?_) <;> (repeat' (refine g_split rfl (by decide) rfl (by decide) ?_ ?_ <;> intro hc <;> (try refine wO ?_))) <;> (try (refine wK ?_; intro _)))) | (refine rG 2 [4] ?_; ((try (refine wK ?_; intro _)))) | refine wC ?_ | (refine ex_split rfl ?_ ?_ <;> intro hc))
    exact fin (.inr rfl) () (resl1 rfl (rv_tmp rfl)) trivial ent_take
  · have d0 : decide (time < 0) = false := decide_eq_false h0
    by_cases h1 : time > 1099511627776
    · have d1 : decide (time > 1099511627776) = true := decide_eq_true h1
      have e : onF time m l s = (l, s, false) := by unfold onF tmax; rw [d0, d1]; rfl
      rw [e]
      refine spec_of Tryz.func106 rfl Tryz.ntmps106 rfl ?_
      repeat' (first | (refine rG 0 [0, 1] ?_; ((try (refine wK ?_; intro _)))) | (refine rG 1 [0, 1, 10] ?_; ((try refine wO ?_) <;> (repeat' (refine g_split rfl (by decide) rfl (by decide) ?_ ?_ <;> intro hc <;> (try refine wO ?_))) <;> (try (refine wK ?_; intro _)))) | (refine rG 2 [4] ?_; ((try (refine wK ?_; intro _)))) | refine wC ?_ | (refine ex_split rfl ?_ ?_ <;> intro hc))
      exact fin (.inr rfl) () (resl1 rfl (rv_tmp rfl)) trivial ent_take
    · have d1 : decide (time > 1099511627776) = false := decide_eq_false h1
      cases d2 : decide (time < m) with
      | true =>
        have e : onF time m l s = (IntKind.i64.wrap (l + 1), IntKind.i64.wrap (s + 1), false) := by unfold onF tmax; rw [d0, d1, d2]; rfl
        rw [e]
        refine spec_of Tryz.func106 rfl Tryz.ntmps106 rfl ?_
        repeat' (first | (refine rG 0 [0, 1] ?_; ((try (refine wK ?_; intro _)))) | (refine rG 1 [0, 1, 10] ?_; ((try refine wO ?_) <;> (repeat' (refine g_split rfl (by decide) rfl (by decide) ?_ ?_ <;> intro hc <;> (try refine wO ?_))) <;> (try (refine wK ?_; intro _)))) | (refine rG 3 [0, 1] ?_; ((try (refine wK ?_; intro _)))) | (refine rG 4 [0, 23] ?_; ((try (refine wK ?_; intro _)))) | (refine rG 5 [] ?_; ((try (refine wK ?_; intro _)))) | (refine rG 6 [4] ?_; ((try (refine wK ?_; intro _)))) | refine wC ?_ | (refine ex_split rfl ?_ ?_ <;> intro hc))
        exact fin (.inr rfl) () (resl1 rfl (rv_tmp rfl)) trivial (ent_cl rfl)
      | false =>
        have e : onF time m l s = (l, IntKind.i64.wrap (s + 1), true) := by unfold onF tmax; rw [d0, d1, d2]; rfl
        rw [e]
        refine spec_of Tryz.func106 rfl Tryz.ntmps106 rfl ?_
        repeat' (first | (refine rG 0 [0, 1] ?_; ((try (refine wK ?_; intro _)))) | (refine rG 1 [0, 1, 10] ?_; ((try refine wO ?_) <;> (repeat' (refine g_split rfl (by decide) rfl (by decide) ?_ ?_ <;> intro hc <;> (try refine wO ?_))) <;> (try (refine wK ?_; intro _)))) | (refine rG 3 [0, 1] ?_; ((try (refine wK ?_; intro _)))) | (refine rG 4 [0, 23] ?_; ((try (refine wK ?_; intro _)))) | (refine rG 7 [4] ?_; ((try (refine wK ?_; intro _)))) | refine wC ?_ | (refine ex_split rfl ?_ ?_ <;> intro hc))
        exact fin (.inr rfl) () (resl1 rfl (rv_tmp rfl)) trivial (ent_cl rfl)
theorem clAdv (b : Nat) (m l s time : Int) (v3 v4 v5 v6 v7 v8 v9 : Value) (t) : Spec Tryz.prog 78 [.pointer (some ⟨b, 0, none⟩), .int .i64 time] (cl true b [.int .i64 m, .int .i64 l, .int .i64 s, v3, v4, v5, v6, v7, v8, v9] t (0, 0)) (X := Unit) (fun _ => .bool (adF time m)) (fun _ => True)
    (fun _ => cl true b [.int .i64 (bif adF time m then time else m), .int .i64 l, .int .i64 s, v3, v4, v5, v6, v7, v8, v9] t (0, 0)) := by
  cases d0 : decide (time ≤ m) with
  | true =>
    have e : adF time m = false := by unfold adF; rw [d0]; rfl
    rw [e]
    refine spec_of Tryz.func78 rfl Tryz.ntmps78 rfl ?_
    repeat' (first | (refine rG 0 [0, 1] ?_; ((try (refine wK ?_; intro _)))) | (refine rG 1 [0, 1, 14] ?_; ((try refine wO ?_) <;> (repeat' (refine g_split rfl (by decide) rfl (by decide) ?_ ?_ <;> intro hc <;> (try refine wO ?_))) <;> (try (refine wK ?_; intro _)))) | (refine rG 2 [4] ?_; ((try (refine wK ?_; intro _)))) | refine wC ?_ | (refine ex_split rfl ?_ ?_ <;> intro hc))
    exact fin (.inr rfl) () (resl1 rfl (rv_tmp rfl)) trivial (Ent.refl _)
  | false =>
    by_cases h1 : time > 1099512676352
    · have d1 : decide (time > 1099512676352) = true := decide_eq_true h1
      have e : adF time m = false := by unfold adF far; rw [d0, d1]; rfl
      rw [e]
      refine spec_of Tryz.func78 rfl Tryz.ntmps78 rfl ?_
      repeat' (first | (refine rG 0 [0, 1] ?_; ((try (refine wK ?_; intro _)))) | (refine rG 1 [0, 1, 14] ?_; ((try refine wO ?_) <;> (repeat' (refine g_split rfl (by decide) rfl (by decide) ?_ ?_ <;> intro hc <;> (try refine wO ?_))) <;> (try (refine wK ?_; intro _)))) | (refine rG 2 [4] ?_; ((try (refine wK ?_; intro _)))) | refine wC ?_ | (refine ex_split rfl ?_ ?_ <;> intro hc))
      exact fin (.inr rfl) () (resl1 rfl (rv_tmp rfl)) trivial (Ent.refl _)
    · have d1 : decide (time > 1099512676352) = false := decide_eq_false h1
      have e : adF time m = true := by unfold adF far; rw [d0, d1]; rfl
      rw [e]
      refine spec_of Tryz.func78 rfl Tryz.ntmps78 rfl ?_
      repeat' (first | (refine rG 0 [0, 1] ?_; ((try (refine wK ?_; intro _)))) | (refine rG 1 [0, 1, 14] ?_; ((try refine wO ?_) <;> (repeat' (refine g_split rfl (by decide) rfl (by decide) ?_ ?_ <;> intro hc <;> (try refine wO ?_))) <;> (try (refine wK ?_; intro _)))) | (refine rG 3 [] ?_; ((try (refine wK ?_; intro _)))) | (refine rG 4 [4] ?_; ((try (refine wK ?_; intro _)))) | refine wC ?_ | (refine ex_split rfl ?_ ?_ <;> intro hc))
      exact fin (.inr rfl) () (resl1 rfl (rv_tmp rfl)) trivial (ent_cl rfl)
theorem clMark (m l s : Int) : Spec Tryz.prog 80 [.agg (List.toArray [.int .i64 m, .int .i64 l, .int .i64 s])] 1 (X := Unit) (fun _ => .int .i64 m) (fun _ => True) (fun _ => 1) := by
  refine spec_of Tryz.func80 rfl Tryz.ntmps80 rfl ?_
  repeat' (first | (refine rG 0 [1] ?_; ((try ((refine o_box (by decide) (v := .agg (List.toArray _)) rfl rfl (fun _ => ?_)))) <;> (try (refine wK ?_; intro _)))) | (refine rG 1 [2] ?_; ((try (refine wK ?_; intro _)))) | refine wC ?_ | (refine ex_split rfl ?_ ?_ <;> intro hc))
  exact fin (.inr rfl) () (resl1 rfl (rv_tmp rfl)) trivial (Ent.toOne _)
theorem clLate (m l s : Int) : Spec Tryz.prog 16 [.agg (List.toArray [.int .i64 m, .int .i64 l, .int .i64 s])] 1 (X := Unit) (fun _ => .int .i64 l) (fun _ => True) (fun _ => 1) := by
  refine spec_of Tryz.func16 rfl Tryz.ntmps16 rfl ?_
  repeat' (first | (refine rG 0 [1] ?_; ((try ((refine o_box (by decide) (v := .agg (List.toArray _)) rfl rfl (fun _ => ?_)))) <;> (try (refine wK ?_; intro _)))) | (refine rG 1 [2] ?_; ((try (refine wK ?_; intro _)))) | refine wC ?_ | (refine ex_split rfl ?_ ?_ <;> intro hc))
  exact fin (.inr rfl) () (resl1 rfl (rv_tmp rfl)) trivial (Ent.toOne _)
theorem clSeen (m l s : Int) : Spec Tryz.prog 17 [.agg (List.toArray [.int .i64 m, .int .i64 l, .int .i64 s])] 1 (X := Unit) (fun _ => .int .i64 s) (fun _ => True) (fun _ => 1) := by
  refine spec_of Tryz.func17 rfl Tryz.ntmps17 rfl ?_
  repeat' (first | (refine rG 0 [1] ?_; ((try ((refine o_box (by decide) (v := .agg (List.toArray _)) rfl rfl (fun _ => ?_)))) <;> (try (refine wK ?_; intro _)))) | (refine rG 1 [2] ?_; ((try (refine wK ?_; intro _)))) | refine wC ?_ | (refine ex_split rfl ?_ ?_ <;> intro hc))
  exact fin (.inr rfl) () (resl1 rfl (rv_tmp rfl)) trivial (Ent.toOne _)
/-! A quota, ahead of others in one block. -/
theorem quRefuse (b : Nat) (x y r : Int) (v3 v4 v5 v6 v7 : Value) (t) : Spec Tryz.prog 122 [.pointer (some ⟨b, 0, none⟩)] (cl true b [.int .i64 x, .int .i64 y, .int .i64 r, v3, v4, v5, v6, v7] t (0, 0)) (X := Unit) (fun _ => .tuple #[]) (fun _ => True)
    (fun _ => cl true b [.int .i64 x, .int .i64 y, .int .i64 (IntKind.i64.wrap (r + 1)), v3, v4, v5, v6, v7] t (0, 0)) := by
  refine spec_of Tryz.func122 rfl Tryz.ntmps122 rfl ?_
  repeat' (first | (refine rG 0 [] ?_; ((try (refine wK ?_; intro _)))) | refine wC ?_ | (refine ex_split rfl ?_ ?_ <;> intro hc))
  exact fin (.inl rfl) () (resl0 rfl) trivial (ent_cl rfl)
theorem quLeft (x y r : Int) : Spec Tryz.prog 61 [.agg (List.toArray [.int .i64 x, .int .i64 y, .int .i64 r])] 1 (X := Unit) (fun _ => .int .i64 x) (fun _ => True) (fun _ => 1) := by
  refine spec_of Tryz.func61 rfl Tryz.ntmps61 rfl ?_
  repeat' (first | (refine rG 0 [1] ?_; ((try ((refine o_box (by decide) (v := .agg (List.toArray _)) rfl rfl (fun _ => ?_)))) <;> (try (refine wK ?_; intro _)))) | (refine rG 1 [2] ?_; ((try (refine wK ?_; intro _)))) | refine wC ?_ | (refine ex_split rfl ?_ ?_ <;> intro hc))
  exact fin (.inr rfl) () (resl1 rfl (rv_tmp rfl)) trivial (Ent.toOne _)
theorem quOf (n : Int) : Spec Tryz.prog 115 [.int .i64 n] 1 (X := Unit) (fun _ => .agg (List.toArray [.int .i64 (if (0 : Int) > n then 0 else n), .int .i64 0, .int .i64 0])) (fun _ => True) (fun _ => 1) := by
  refine spec_of Tryz.func115 rfl Tryz.ntmps115 rfl ?_
  repeat' (first | (refine rG 0 [0, 2] ?_; ((try ((refine o_alloc_a (by decide) (fun _ => ?_)))) <;> (try (refine wK ?_; intro _)))) | (refine rG 1 [2] ?_; ((try (refine wK ?_; intro _)))) | refine wC ?_ | (refine ex_split rfl ?_ ?_ <;> intro hc))
  exact fin (.inr rfl) () (resl1 rfl (rv_cell_a rfl rfl)) trivial (Ent.toOne _)
set_option maxHeartbeats 4000000 in
theorem quSpend (b : Nat) (x y r : Int) (v3 v4 v5 v6 v7 : Value) (t) (R : HP) (a : Option Addr) (cap : Nat) [hr : RdC R a [Value.int .i64 1]] (h0 : 1 ≤ x) (h1 : x ≤ 1000000) : Spec Tryz.prog 104 [.pointer (some ⟨b, 0, none⟩), .slice a 1 cap] (cl true b [.int .i64 x, .int .i64 y, .int .i64 r, v3, v4, v5, v6, v7] t (0, 0) * R) (X := Unit) (fun _ => .bool true) (fun _ => True)
    (fun _ => cl true b [.int .i64 (x - 1), .int .i64 (IntKind.i64.wrap (y + 1)), .int .i64 r, v3, v4, v5, v6, v7] t (0, 0) * R) := by
  refine spec_of Tryz.func104 rfl Tryz.ntmps104 rfl ?_
  refine Ex.rd_some (a := a) (l := [Value.int .i64 1]) (by simp) (fun ad ha => ?_)
  subst ha
  have hv : ([Value.int .i64 1])[(0 : Int).toNat * 1]? = some (.int .i64 1) := rfl
  have e1 : IntKind.i64.wrap (0 + 1) = 1 := rfl
  have d0 : decide ((0 : Int) < 1) = true := rfl
  have d1 : decide ((1 : Int) < 1) = false := rfl
  have d2 : decide ((1 : Int) < 0) = false := rfl
  have d3 : decide ((1 : Int) > x) = false := decide_eq_false (by omega)
  have e2 : IntKind.i64.wrap (x - 1) = x - 1 := by rw [IntKind.wrap_i64]; omega
  have e3 : IntKind.i64.wrap (x - (x - 1)) = 1 := by rw [IntKind.wrap_i64]; omega
  repeat' (first | (refine rG 0 [0, 1] ?_; ((try (refine wK ?_; intro _)))) | (refine rG 1 [0, 1, 5] ?_; ((try (refine wK ?_; intro _)))) | (refine rG 2 [0, 5, 12, 13, 14] ?_; ((try (refine wK ?_; intro _)))) | refine wC ?_ | (refine ex_split rfl ?_ ?_ <;> intro hc))
  refine ex_rounds 2 ?_
  refine rn_succ ?_
  repeat' (first | (refine rG 3 [0, 5, 12, 13, 14, 15] ?_; ((try (refine wK ?_; intro _)))) | (refine rG 4 [0, 5, 7, 12, 13, 14] ?_; ((try (refine wK ?_; intro _)))) | (refine rG 5 [0, 5, 7, 12, 13, 14, 24] ?_; ((try refine wO ?_) <;> (repeat' (refine g_split rfl (by decide) rfl (by decide) ?_ ?_ <;> intro hc <;> (try refine wO ?_))) <;> (try (refine wK ?_; intro _)))) | (refine rG 8 [0, 5, 12, 13, 14] ?_; ((try (refine wK ?_; intro _)))) | (refine rG 9 [0, 5, 12, 13, 14] ?_; ((try (refine wK ?_; intro _)))) | refine wC ?_ | (refine ex_split rfl ?_ ?_ <;> intro hc))
  rw [e1, e2]
  refine rn_succ ?_
  repeat' (first | (refine rG 3 [0, 5, 12, 13, 14, 15] ?_; ((try (refine wK ?_; intro _)))) | (refine rA 10 [0, 5] 14 ?_; (refine os_but 0 rfl ?_); ((refine lQ 0 ?_; ((refine lQ 1 ?_; ((refine lQ 2 ?_; ((refine lQ 4 ?_; ((refine lQ 5 ?_; ((refine lQ 6 ?_; ((refine lQ 8 ?_; ((refine os_two 3 7 (by kernel_rfl) rfl rfl ?_ ?_ <;> first | (refine os_sel (d := some 34) rfl ?_ <;> (refine wO ?_) <;> (refine os_nil ?_) <;> ((refine oN 7 ?_ <;> (refine wO ?_) <;> (refine os_nil ?_) <;> ((refine lQ 9 ?_; ((refine lQ 10 ?_; ((refine lQ 11 ?_; ((refine lQ 12 ?_; ((refine oN 13 ?_ <;> (refine wO ?_) <;> (refine os_nil ?_) <;> ((refine dK ?_; intro _))))))))))))))) | (refine os_sel (d := some 38) rfl ?_ <;> (refine wO ?_) <;> (refine os_nil ?_) <;> ((refine lQ 9 ?_; ((refine oN 3 ?_ <;> (refine wO ?_) <;> (refine os_nil ?_) <;> ((refine lQ 10 ?_; ((refine lQ 11 ?_; ((refine lQ 12 ?_; ((refine oN 13 ?_ <;> (refine wO ?_) <;> (refine os_nil ?_) <;> ((refine dK ?_; intro _)))))))))))))))))))))))))))))))) | refine wC ?_ | (refine ex_split rfl ?_ ?_ <;> intro hc))
  all_goals
    rw [e3]
    repeat' (first | (refine rG 11 [] ?_; ((try (refine wK ?_; intro _)))) | (refine rG 12 [4] ?_; ((try (refine wK ?_; intro _)))) | refine wC ?_ | (refine ex_split rfl ?_ ?_ <;> intro hc))
    exact fin (.inr rfl) () (resl1 rfl (rv_tmp rfl)) trivial (ent_cl' rfl)
end Go.Proofs.YtcelailgedndnaaGreatS
namespace Go.Proofs.YtcelailgedndnaaGreatS
set_option linter.unusedSectionVars false
variable [DR]
open Go.RowKit
set_option linter.unusedVariables false
set_option linter.unusedSimpArgs false
variable {P : Program} {n : Nat} {ops : Array Oper} {rest : List Oper} {e : Env} {H : HP} {Φ : Post} {d : Nat} {ty : TypeId} {ps : String} {af : Array Edge}
def ox (el sz : Nat) (a : Option Addr) (m cap : Nat) (l : List Value) : HP := fun h => l.length = m * sz ∧ m ≤ cap ∧ cap ≤ maxLen ∧
  ((cap = 0 ∧ ∀ b, h b = none) ∨ ∃ g cur, a = some ⟨g, 0, none⟩ ∧ cap * sz ≤ cur.length ∧ cur.take (m * sz) = l ∧ cl true g cur el (0, 0) h)
class HasX (H : HP) (el sz : Nat) (a : Option Addr) (m cap : Nat) (l : outParam (List Value)) (R : outParam HP) : Prop where ent : Ent H (ox el sz a m cap l * R)
instance (priority := 1000) hasX_h (el sz a m cap l R) : HasX (ox el sz a m cap l * R) el sz a m cap l R := ⟨Ent.refl _⟩
instance (priority := 900) hasX_1 (el sz a m cap l) : HasX (ox el sz a m cap l) el sz a m cap l 1 := ⟨Ent.ofEq (sep_one _).symm⟩
instance (priority := 500) hasX_t (A H el sz a m cap l R) [h : HasX H el sz a m cap l R] : HasX (A * H) el sz a m cap l (A * R) := ⟨by
  have := h.ent.frameL A
  rw [sep_left_comm] at this
  exact this⟩
theorem ox_of (el sz a m cap l) : Ent (ow el sz a m cap l) (ox el sz a m cap l) := fun w0 w F s => by
  obtain ⟨r, ⟨r1, r2, hj, ⟨h1, h2, h3, h4⟩, hf⟩, hm⟩ := s.mem
  refine ⟨s.os, s.tape, s.output, s.size, r, ⟨r1, r2, hj, ⟨h1, h2, h3, ?_⟩, hf⟩, hm⟩
  rcases h4 with h4 | ⟨g, cur, ha, hc, ht, hb⟩
  · exact .inl h4
  · exact .inr ⟨g, cur, ha, Nat.le_of_eq hc.symm, ht, hb⟩
theorem rd_ox (el sz a m cap l) : RdP (ox el sz a m cap l) a l := fun w0 w F s j v hj => by
  obtain ⟨r, hr, hm⟩ := s.dropR.mem
  obtain ⟨h1, h2, h3, h4 | ⟨g, cur, ha, hc, ht, hb⟩⟩ := hr
  · have hm0 : m = 0 := by omega
    have : l = [] := List.eq_nil_of_length_eq_zero (by rw [h1, hm0]; simp)
    rw [this] at hj; simp at hj
  · refine ⟨_, ha, ?_⟩
    have hb' : r = fun c => if c = g then some (true, .cells cur.toArray el (0, 0)) else none := hb
    have := hm g true (.cells cur.toArray el (0, 0)) (by rw [hb']; simp)
    rw [add_none, cell_at this, Nat.zero_add]
    rw [← ht, List.getElem?_take] at hj
    split at hj
    · exact hj
    · cases hj
instance (priority := 1000) rdc_ox (el sz a m cap l R) : RdC (ox el sz a m cap l * R) a l := ⟨(rd_ox el sz a m cap l).left R⟩
instance (priority := 900) rdc_ox1 (el sz a m cap l) : RdC (ox el sz a m cap l) a l := ⟨rd_ox el sz a m cap l⟩
theorem ox_cases {w0 w : World} {F : HP} {el sz a m cap l} (s : Sat w0 w (ox el sz a m cap l * F)) :
    l.length = m * sz ∧ m ≤ cap ∧ cap ≤ maxLen ∧ ((cap = 0 ∧ Sat w0 w F) ∨ ∃ g cur, a = some ⟨g, 0, none⟩ ∧ cap * sz ≤ cur.length ∧ cur.take (m * sz) = l ∧ Sat w0 w (cl true g cur el (0, 0) * F)) := by
  have hd := s.drop
  obtain ⟨r, ⟨r1, r2, hj, ⟨h1, h2, h3, h4⟩, hf⟩, hm⟩ := s.mem
  refine ⟨h1, h2, h3, ?_⟩
  rcases h4 with h4 | ⟨g, cur, ha, hc, ht, hb⟩
  · exact .inl ⟨h4.1, hd⟩
  · exact .inr ⟨g, cur, ha, hc, ht, s.os, s.tape, s.output, s.size, r, ⟨r1, r2, hj, hb, hf⟩, hm⟩
theorem ox_mk {w0 w : World} {F : HP} {el sz m cap : Nat} {l : List Value} {g : Nat} {cur : List Value} (h1 : l.length = m * sz) (h2 : m ≤ cap) (h3 : cap ≤ maxLen) (hc : cap * sz ≤ cur.length) (ht : cur.take (m * sz) = l)
    (s : Sat w0 w (cl true g cur el (0, 0) * F)) : Sat w0 w (ox el sz (some ⟨g, 0, none⟩) m cap l * F) := by
  obtain ⟨r, ⟨r1, r2, hj, hb, hf⟩, hm⟩ := s.mem
  exact ⟨s.os, s.tape, s.output, s.size, r, ⟨r1, r2, hj, ⟨h1, h2, h3, .inr ⟨g, cur, rfl, hc, ht, hb⟩⟩, hf⟩, hm⟩
/-- A row's beginning, with no room behind it. -/
theorem ox_cut {el sz m k cap : Nat} {a : Option Addr} {l l' : List Value} (hk : k ≤ m) (hl : l' = l.take (k * sz)) : Ent (ox el sz a m cap l) (ox el sz a k k l') := fun w0 w F s => by
  obtain ⟨h1, h2, h3, h4⟩ := ox_cases s
  have hl' : l'.length = k * sz := by rw [hl, List.length_take, h1]; exact Nat.min_eq_left (Nat.mul_le_mul_right _ hk)
  rcases h4 with ⟨hc0, sF⟩ | ⟨g, cur, rfl, hcur, ht, sg⟩
  · obtain ⟨r, hr, hm⟩ := sF.mem
    have hk0 : k = 0 := by omega
    exact ⟨s.os, s.tape, s.output, s.size, r, ⟨fun _ => none, r, fun _ => rfl, ⟨hl', Nat.le_refl _, by omega, .inl ⟨hk0, fun _ => rfl⟩⟩, hr⟩, hm⟩
  · refine ox_mk hl' (Nat.le_refl _) (by omega) (Nat.le_trans (Nat.mul_le_mul_right _ (by omega)) hcur) ?_ sg
    rw [hl, ← ht, List.take_take, Nat.min_eq_left (Nat.mul_le_mul_right _ hk)]
theorem appendX_spec {st el sz bt : Nat} {z : List Value} [f : Slc P st el sz bt z] {a b : Option Addr} {m cap k ck : Nat} {l news : List Value} {R : HP} {ty : TypeId} (hrd : RdP R b news) (hl : news.length = k * sz) (h1 : ∀ u ∈ news, u.oneCell' = true)
    (hb : (m + k) * bt ≤ 140737488355328) (hk : m + k ≤ maxLen) {w0 w : World} {F : HP} (s : Sat w0 w (ox el sz a m cap l * (R * F))) :
    ∃ a' cap' w', (Builtin.append_ #[st, st] ty #[.slice a m cap, .slice b k ck]).run P w = .ok (.slice a' (m + k) cap') w' ∧ Sat w0 w' (ox el sz a' (m + k) cap' (l ++ news) * (R * F)) := by
  have sR := s.drop
  have hpos := f.pos
  obtain ⟨i, zv, hi, hbt, hsz, hz, hzc⟩ := f.info
  obtain ⟨hlen, hmc, hcm, hcase⟩ := ox_cases s
  have hlenA : (l ++ news).length = (m + k) * sz := by rw [List.length_append, hlen, hl, Nat.add_mul]
  have hm63 : m + k ≤ 9223372036854775807 := by simp only [maxLen] at hk; omega
  by_cases hk0 : k = 0
  · subst hk0
    have hn : news = [] := List.eq_nil_of_length_eq_zero (by simpa using hl)
    subst hn
    refine ⟨a, cap, w, ?_, by simpa using s⟩
    have hroom : m + 0 ≤ cap := by omega
    cases b with
    | none =>
      cases a with
      | none => simp [Builtin.append_, run_underlying f.und, f.size, Builtin.lenOf, hmc, Builtin.firstCells]
      | some a => simp [Builtin.append_, run_underlying f.und, f.size, Builtin.lenOf, hmc, Builtin.firstCells, storeCells]
    | some b =>
      cases a with
      | none => simp [Builtin.append_, run_underlying f.und, f.size, Builtin.lenOf, hmc, Builtin.firstCells, loadCells, loadCellsFrom]
      | some a => simp [Builtin.append_, run_underlying f.und, f.size, Builtin.lenOf, hmc, Builtin.firstCells, loadCells, loadCellsFrom, storeCells]
  · have hne : 0 < news.length := by rw [hl]; exact Nat.mul_pos (by omega) hpos
    obtain ⟨bd, rfl⟩ := (hrd.some hne sR)
    have hnews : ∀ j v, news[j]? = some v → w.cell? (bd.add j) = some v := fun j v hj => by
      obtain ⟨ad, ha, hc⟩ := hrd w0 w F sR j v hj
      cases ha; exact hc
    have hl' : news.length = k * i.size := by rw [hsz]; exact hl
    have grown : ∀ old, old < m + k →
        Sat w0 (w.drew.alloc (.cells (l.toArray ++ news.toArray ++ Builtin.zeroCells zv.cells (grownCap w (m + k) old el - (m + k))) el))
          (ox el sz (some ⟨w.heap.size, 0, none⟩) (m + k) (grownCap w (m + k) old el) (l ++ news) * (R * F)) := fun old ho => by
      have hge := grownCap_ge w (m + k) old el
      have hcm' := grownCap_le_maxLen w (m + k) old el hk
      have hzs : zv.cells.size = sz := by rw [hzc]; simpa using f.zsz
      have s1 := sR.drew.alloc (.cells (l.toArray ++ news.toArray ++ Builtin.zeroCells zv.cells (grownCap w (m + k) old el - (m + k))) el)
      refine ox_mk (cur := (l.toArray ++ news.toArray ++ Builtin.zeroCells zv.cells (grownCap w (m + k) old el - (m + k))).toList) hlenA hge hcm' ?_ ?_ ?_
      · simp only [Array.length_toList, Array.size_append, List.size_toArray, size_zeroCells, hzs, hlen, hl, ← Nat.add_mul]
        exact Nat.mul_le_mul_right _ (by omega)
      · simp only [Array.toList_append]
        rw [← hlenA]
        exact List.take_left
      · unfold cl; rw [Array.toArray_toList]; exact s1
    rcases hcase with ⟨hc0, _⟩ | ⟨g, cur, rfl, hcur, htake, sg⟩
    · have hm0 : m = 0 := by omega
      subst hm0; subst hc0
      have hl0 : l = [] := List.eq_nil_of_length_eq_zero (by simpa using hlen)
      subst hl0
      cases a with
      | none =>
        have hr := run_append_nil (P := P) w st ty el i zv f.und hi hz bd k ck news hl' hnews (by omega) (by omega) (by rw [hbt]; simp only [Nat.zero_add] at hb; omega)
        have hg := grown 0 (by omega)
        simp only [Nat.zero_add, List.nil_append, Array.empty_append] at hg hr ⊢
        exact ⟨_, _, _, hr, hg⟩
      | some a0 =>
        have hr := run_append_grow (P := P) w st ty el i zv f.und hi hz a0 0 0 [] (by simp) (by simp) bd k ck news hl' hnews (by omega) (by omega) (growslice_fits (by omega) (by rw [hbt]; exact hb))
        exact ⟨_, _, _, hr, grown 0 (by omega)⟩
    · by_cases hroom : m + k ≤ cap
      · have hg0 : w.heap[g]? = some (.cells cur.toArray el (0, 0)) := sg.heapCl
        have hfit : m * i.size + news.length ≤ cur.toArray.size := by
          rw [hsz, hl]; simp only [List.size_toArray]; rw [← Nat.add_mul]; exact Nat.le_trans (Nat.mul_le_mul_right _ hroom) hcur
        have hr := run_append_room (P := P) w st ty el i f.und hi g m cap cur.toArray hg0 bd k ck news hl' hnews h1 hroom hfit
        refine ⟨_, _, _, hr, ox_mk hlenA hroom hcm ?_ ?_ (sg.setRow (l' := cur.take (m * i.size) ++ news ++ cur.drop (m * i.size + news.length)))⟩
        · simp only [List.length_append, List.length_take, List.length_drop]
          simp only [List.size_toArray] at hfit
          omega
        · rw [hsz, htake, ← hlenA]
          exact List.take_left
      · have holds : ∀ j u, l[j]? = some u → w.cell? ((⟨g, 0, none⟩ : Addr).add j) = some u := fun j u hj => by
          rw [add_none, cell_at sg.heapCl, Nat.zero_add]
          rw [← htake, List.getElem?_take] at hj
          split at hj
          · exact hj
          · cases hj
        have hr := run_append_grow (P := P) w st ty el i zv f.und hi hz ⟨g, 0, none⟩ m cap l (by rw [hsz]; exact hlen) holds bd k ck news hl' hnews (by omega) (by omega) (growslice_fits (by omega) (by rw [hbt]; exact hb))
        exact ⟨_, _, _, hr, grown cap (by omega)⟩
theorem o_appendX {α : Type} {cells : α → List Value} {xs ys : List α} {x y : Operand} {a b : Option Addr} {cap st el sz bt ck : Nat} {z : List Value} (hc0 : ∀ x, (cells x).length = sz) (h1c : ∀ x, ∀ v ∈ cells x, v.oneCell' = true) [f : Slc P st el sz bt z] {l news : List Value} {R : HP} {u : Array TypeId} (hd : d < n) (hx : ev e x = .slice a xs.length cap) (hy : ev e y = .slice b ys.length ck) (hu : u = #[st, st])
    [ho : HasX H el sz a xs.length cap l R] [hrd : RdC R b news] (h0 : l = xs.flatMap cells) (hn : news = ys.flatMap cells) (hb : (xs.length + ys.length) * bt ≤ 140737488355328) (hk : xs.length + ys.length ≤ maxLen)
    (c : ∀ a' cap', (xs ++ ys).length ≤ cap' → Ops P n ops rest (put e d (.slice a' (xs ++ ys).length cap')) (ox el sz a' (xs ++ ys).length cap' ((xs ++ ys).flatMap cells) * R) Φ) : Ops P n ops (⟨some d, .call ⟨.builtin .append, #[x, y], u⟩, ty, ps, af, none⟩ :: rest) e H Φ :=
  ops_step rfl hd fun w0 w F s => by
    subst hu; subst h0; subst hn
    have s1 := ho.ent _ _ _ s
    rw [sep_assoc] at s1
    obtain ⟨a', cap', w', hr, s'⟩ := appendX_spec (P := P) (st := st) (ck := ck) (ty := ty) hrd.rd (flat_len hc0 ys) (fun v hv => by
      obtain ⟨q, _, hq⟩ := List.mem_flatMap.1 hv
      exact h1c q v hq) hb hk s1
    have h2 := (ox_cases s').2.1
    have := c a' cap' (by simpa using h2)
    rw [List.length_append, List.flatMap_append] at this
    refine ⟨Next.value (.slice a' (xs.length + ys.length) cap'), w', _, ?_, this, by rw [sep_assoc]; exact s'⟩
    simp [execOp, resolve, invoke, builtin, hx, hy, hr]
/-- What is owned is given up to reading: from then on it may be had as often as is wanted. -/
theorem fz {p : Bool} {b : Nat} {l : List Value} {t : TypeId} {fr : Nat × Nat} : Ent (cl p b l t fr) (rs (some ⟨b, 0, none⟩) l) := fun w0 w F s => by
  obtain ⟨r, ⟨r1, r2, hj, hb, hf⟩, hm⟩ := s.mem
  have hr1 : r1 = fun c => if c = b then some (p, .cells l.toArray t fr) else none := hb
  have hread : ∀ w : World, (∀ b' p' o, (fun c => if c = b then some (false, Obj.cells l.toArray t fr) else none : Res) b' = some (p', o) → w.heap[b']? = some o) → ∀ j v, l[j]? = some v → ∃ ad, some (⟨b, 0, none⟩ : Addr) = some ad ∧ w.cell? (ad.add j) = some v := fun w hw j v hv =>
    ⟨_, rfl, by rw [add_none, cell_at (hw b false (Obj.cells l.toArray t fr) (by simp)), Nat.zero_add, hv]⟩
  cases p with
  | false =>
    refine ⟨s.os, s.tape, s.output, s.size, r, ⟨r1, r2, hj, ⟨fun b' x hx => ?_, ?_⟩, hf⟩, hm⟩
    · rw [hr1] at hx; by_cases e : b' = b
      · subst e; simp at hx; rw [← hx]
      · simp only [if_neg e] at hx; cases hx
    · rw [hr1]; exact hread
  | true =>
    have hn : r2 b = none := by
      have := hj b
      rw [hr1] at this; simp only [if_true] at this
      cases h2 : r2 b with
      | none => rfl
      | some v => rw [h2] at this; exact absurd this.1 (by simp)
    have hrb : r b = some (true, .cells l.toArray t fr) := by
      have := hj b
      rw [hr1, hn] at this; simp only [if_true] at this; exact this
    refine ⟨s.os, s.tape, s.output, s.size, fun c => if c = b then some (false, .cells l.toArray t fr) else r c, ⟨fun c => if c = b then some (false, .cells l.toArray t fr) else none, r2, fun c => ?_, ⟨fun b' x hx => ?_, hread⟩, hf⟩, fun c q o hc => ?_⟩
    · by_cases e : c = b
      · subst e; simp only [if_true]; rw [hn]; exact rfl
      · have := hj c
        rw [hr1] at this; simp only [if_neg e] at this ⊢; exact this
    · by_cases e : b' = b
      · subst e; simp at hx; rw [← hx]
      · simp only [if_neg e] at hx; cases hx
    · by_cases e : c = b
      · subst e; simp at hc; obtain ⟨_, rfl⟩ := hc; exact hm c true _ hrb
      · simp only [if_neg e] at hc; exact hm c q o hc
theorem rs_short {a : Option Addr} {l : List Value} (k : Nat) : Ent (rs a l) (rs a (l.take k)) := fun w0 w F s => by
  obtain ⟨r, ⟨r1, r2, hj, ⟨h1, h2⟩, hf⟩, hm⟩ := s.mem
  refine ⟨s.os, s.tape, s.output, s.size, r, ⟨r1, r2, hj, ⟨h1, fun w hw j v hv => h2 w hw j v ?_⟩, hf⟩, hm⟩
  rw [List.getElem?_take] at hv
  split at hv
  · exact hv
  · cases hv
theorem rs_empty (a : Option Addr) (A : HP) : Ent A (rs a [] * A) := fun w0 w F s => by
  obtain ⟨r, hr, hm⟩ := s.mem
  rw [sep_assoc]
  exact ⟨s.os, s.tape, s.output, s.size, r, ⟨fun _ => none, r, fun _ => rfl, ⟨(fun b x h => nomatch h), (fun w hw j v hj => by simp at hj)⟩, hr⟩, hm⟩
theorem fz_ow {el sz m cap : Nat} {a : Option Addr} {l : List Value} : Ent (ow el sz a m cap l) (rs a l) := fun w0 w F s => by
  obtain ⟨h1, h2, h3, h4 | ⟨g, cur, rfl, hc, ht, sg⟩⟩ := ow_cases s
  · have hl : l = [] := List.eq_nil_of_length_eq_zero (by rw [h1, show m = 0 by omega]; simp)
    subst hl
    exact rs_empty a F _ _ 1 (by rw [sep_one]; exact h4.2) |> fun h => by rw [sep_one] at h; exact h
  · rw [← ht]
    exact rs_short _ _ _ _ (fz _ _ _ sg)
end Go.Proofs.YtcelailgedndnaaGreatS
namespace Go.Proofs.YtcelailgedndnaaGreatS
open Go.RowKit
set_option linter.unusedVariables false
set_option linter.unusedSimpArgs false
theorem rs_of {a a' : Option Addr} {l l' : List Value} (h : RdP (rs a l) a' l') : Ent (rs a l) (rs a' l') := fun w0 w F s => by
  obtain ⟨r, ⟨r1, r2, hj, hr, hf⟩, hm⟩ := s.mem
  refine ⟨s.os, s.tape, s.output, s.size, r, ⟨r1, r2, hj, ⟨hr.1, fun w' hw' j v hv => ?_⟩, hf⟩, hm⟩
  refine h w' w' 1 ⟨rfl, rfl, rfl, ⟨Nat.le_refl _, fun _ => Nat.le_refl _⟩, r1, ⟨r1, fun _ => none, fun x => ?_, hr, fun _ => rfl⟩, hw'⟩ j v hv
  cases h3 : r1 x with
  | none => exact rfl
  | some v => exact rfl
/-- So many go out. -/
def pk (n : Int) (m : Nat) : Nat := (if n < (m : Int) then n else (m : Int)).toNat
theorem pk_le (n : Int) (m : Nat) : pk n m ≤ m := by unfold pk; split <;> omega
set_option linter.unusedVariables false
set_option linter.unusedSimpArgs false
attribute [local irreducible] Ops Ex Spec T V QO OA Rn OS
theorem quePushN (b : Nat) (t) (x0 x1 x2 v4 v5 v6 v7 : Value) (a c : Option Addr) (xs ys : List In) (cap ck : Nat) (room : Int) (hx : xs.length ≤ 1000000) (hy : ys.length ≤ 1000000) (hr : ¬ ((xs.length : Int) + (ys.length : Int) ≤ room)) :
    Spec Tryz.prog 103 [.pointer (some ⟨b, 3, none⟩), .int .i64 room, .slice c ys.length ck] (cl true b [x0, x1, x2, .slice a xs.length cap, v4, v5, v6, v7] t (0, 0)) (X := Unit) (fun _ => .bool false) (fun _ => True) (fun _ => cl true b [x0, x1, x2, .slice a xs.length cap, v4, v5, v6, v7] t (0, 0)) := by
  have hd : decide (IntKind.i64.wrap ((xs.length : Int) + (ys.length : Int)) > room) = true := by rw [IntKind.wrap_i64]; simp; omega
  refine spec_of Tryz.func103 rfl Tryz.ntmps103 rfl ?_
  repeat' (first | (refine rG 0 [0, 1, 2] ?_; ((try (refine wK ?_; intro _)))) | (refine rG 1 [0, 2, 16] ?_; ((try (refine wK ?_; intro _)))) | (refine rG 2 [6] ?_; ((try (refine wK ?_; intro _)))) | (refine rG 3 [] ?_; ((try refine wO ?_) <;> (try (skip)) <;> (try refine wO ?_) <;> (try (skip)) <;> (try (refine wK ?_; intro _)))) | (refine rG 4 [6] ?_; ((try (refine wK ?_; intro _)))) | refine wC ?_ | (refine ex_split rfl ?_ ?_ <;> intro hc))
  exact fin (.inr rfl) () (resl1 rfl (rv_tmp rfl)) trivial (Ent.refl _)
theorem quePush (b : Nat) (t) (x0 x1 x2 v4 v5 v6 v7 : Value) {R R' : HP} (a c : Option Addr) (xs ys : List In) (cap ck : Nat) (room : Int) [ta : Take (rs a (xs.flatMap inc)) R R'] [hc : RdC R c (ys.flatMap inc)] (hx : xs.length ≤ 1000000) (hy : ys.length ≤ 1000000) (hr : (xs.length : Int) + (ys.length : Int) ≤ room) :
    Spec Tryz.prog 103 [.pointer (some ⟨b, 3, none⟩), .int .i64 room, .slice c ys.length ck] (cl true b [x0, x1, x2, .slice a xs.length cap, v4, v5, v6, v7] t (0, 0) * R) (X := Option Addr × Nat) (fun _ => .bool true) (fun x => (xs ++ ys).length ≤ x.2)
      (fun x => cl true b [x0, x1, x2, .slice x.1 (xs ++ ys).length x.2, v4, v5, v6, v7] t (0, 0) * (rs x.1 ((xs ++ ys).flatMap inc) * R)) := by
  have hd : decide (IntKind.i64.wrap ((xs.length : Int) + (ys.length : Int)) > room) = false := by rw [IntKind.wrap_i64]; simp; omega
  have ha : RdC R a (xs.flatMap inc) := ⟨by rw [ta.eq]; exact (rd_rs _ _).left _⟩
  refine spec_of Tryz.func103 rfl Tryz.ntmps103 rfl ?_
  repeat' (first | (refine rG 0 [0, 1, 2] ?_; ((try (refine wK ?_; intro _)))) | (refine rG 1 [0, 2, 16] ?_; ((try (refine wK ?_; intro _)))) | (refine rG 2 [6] ?_; ((try (refine wK ?_; intro _)))) | (refine rG 3 [] ?_; ((try refine wO ?_) <;> (try (refine o_callH (cloneI _ _ xs _ hx) (by first | exact True.intro | (show _ < _; decide)) rfl rfl (fun x hc1 => ?_))) <;> (try refine wO ?_) <;> (try (refine o_appendT (cells := inc) (xs := xs) (ys := ys) inc_len inc_one (by decide) rfl rfl rfl rfl rfl (by omega) (by simp only [maxLen]; omega) (fun a' cap' hc2 => ?_))) <;> (try (refine wK ?_; intro _)))) | (refine rG 4 [6] ?_; ((try (refine wK ?_; intro _)))) | refine wC ?_ | (refine ex_split rfl ?_ ?_ <;> intro hc))
  refine fin (.inr rfl) (a', cap') (resl1 rfl (rv_tmp rfl)) hc2 ?_
  exact Ent.trans (Ent.frameL (Ent.frame fz_ow _) _) (ent_cl' rfl)
theorem quePop (b : Nat) (t) (x0 x1 x2 v4 v5 v6 v7 : Value) {R R' : HP} (a : Option Addr) (xs : List In) (cap : Nat) (n : Int) [ta : Take (rs a (xs.flatMap inc)) R R'] (hx : xs.length ≤ 1000000) (hcap : xs.length ≤ cap) :
    Spec Tryz.prog 131 [.pointer (some ⟨b, 3, none⟩), .int .i64 n] (cl true b [x0, x1, x2, .slice a xs.length cap, v4, v5, v6, v7] t (0, 0) * R) (X := (Option Addr × Nat) × Option Addr × Nat) (fun x => .slice x.1.1 (xs.take (pk n xs.length)).length x.1.2)
      (fun x => (xs.take (pk n xs.length)).length ≤ x.1.2 ∧ (xs.drop (pk n xs.length)).length ≤ x.2.2)
      (fun x => cl true b [x0, x1, x2, .slice x.2.1 (xs.drop (pk n xs.length)).length x.2.2, v4, v5, v6, v7] t (0, 0) * (ow 39 5 x.1.1 (xs.take (pk n xs.length)).length x.1.2 ((xs.take (pk n xs.length)).flatMap inc) * (rs x.2.1 ((xs.drop (pk n xs.length)).flatMap inc) * R'))) := by
  have hk := pk_le n xs.length
  have ha : RdC R a (xs.flatMap inc) := ⟨by rw [ta.eq]; exact (rd_rs _ _).left _⟩
  have e1 : (if (if (xs.length : Int) < n then (xs.length : Int) else n) > 0 then (if (xs.length : Int) < n then (xs.length : Int) else n) else 0) = ((pk n xs.length : Nat) : Int) := by unfold pk; split <;> split <;> omega
  refine spec_of Tryz.func131 rfl Tryz.ntmps131 rfl ?_
  repeat' (first | (refine rG 0 [0, 1] ?_; ((try (refine wK ?_; intro _)))) | (refine rG 1 [0, 1] ?_; ((try (refine wK ?_; intro _)))) | refine wC ?_ | (refine ex_split rfl ?_ ?_ <;> intro hc))
  rw [e1]
  repeat' (first | (refine rG 2 [0, 1, 5] ?_; ((try refine wO ?_) <;> (try (refine o_takeT (cells := inc) (xs := xs) (t := pk n xs.length) inc_len (by decide) rfl rfl rfl hk hcap (fun a1 hr1 => ?_))) <;> (try (refine o_callH (cloneI _ _ (xs.take (pk n xs.length)) _ (by simp; omega)) (by first | exact True.intro | (show _ < _; decide)) rfl rfl (fun x hc1 => ?_))) <;> (try (refine wK ?_; intro _)))) | (refine rG 3 [5] ?_; ((try refine wO ?_) <;> (try (refine o_dropT (cells := inc) (xs := xs) (t := pk n xs.length) inc_len (by decide) rfl rfl hk hcap (fun a2 hr2 => ?_))) <;> (try (refine wK ?_; intro _)))) | (refine rG 4 [4] ?_; ((try (refine wK ?_; intro _)))) | refine wC ?_ | (refine ex_split rfl ?_ ?_ <;> intro hc))
  refine fin (.inr rfl) (x, a2, cap - pk n xs.length) (resl1 rfl (rv_tmp rfl)) ⟨hc1, by simp only [List.length_drop]; omega⟩ ?_
  have hdr : Ent (rs a (xs.flatMap inc)) (rs a2 ((xs.drop (pk n xs.length)).flatMap inc)) := rs_of (hr2 (rs a (xs.flatMap inc))).rd
  rw [ta.eq]
  exact Ent.trans (Ent.frameL (Ent.frameL (Ent.frame hdr _) _) _) (ent_cl' rfl)
end Go.Proofs.YtcelailgedndnaaGreatS
namespace Go.Proofs.YtcelailgedndnaaGreatS
open Go.RowKit
set_option linter.unusedVariables false
set_option linter.unusedSimpArgs false
/-! A pot within a row of pots. -/
theorem mid_get {A x B : List Value} {o : Nat} (j : Nat) {v : Value} (h : o = A.length + j) (hx : x[j]? = some v) : (A ++ x ++ B)[o]? = some v := by
  subst h
  have hj : j < x.length := (List.getElem?_eq_some_iff.1 hx).1
  rw [List.getElem?_append_left (by simp; omega), List.getElem?_append_right (by omega), Nat.add_sub_cancel_left, hx]
theorem mid_blt {A x B : List Value} {o : Nat} (j : Nat) (h : o = A.length + j) (hj : j < x.length) : Nat.blt o (A ++ x ++ B).length = true := by
  rw [Nat.blt_eq]; simp; omega
theorem mid_spl {A x B : List Value} {o : Nat} (j : Nat) {v : Value} (h : o = A.length + j) (hj : j < x.length) : spl (A ++ x ++ B) o [v] = A ++ spl x j [v] ++ B := by
  subst h
  rw [spl_eq _ _ _ (by simp; omega), spl_eq _ _ _ (by simp; omega)]
  rw [List.append_assoc A x B, List.take_append, List.drop_append]
  have e1 : A.length + j + 1 - A.length = j + 1 := by omega
  have e2 : j + 1 - x.length = 0 := by omega
  simp [List.take_append, List.drop_append, List.take_of_length_le, show j - x.length = 0 by omega]
  rw [List.drop_eq_nil_of_le (by omega), e1, e2]
  simp
set_option linter.unusedVariables false
set_option linter.unusedSimpArgs false
attribute [local irreducible] Ops Ex Spec T V QO OA Rn
theorem tickM (b : Nat) (A B : List Value) (o : Nat) (c n k v : Int) (w : Value) (t) (ho : o = A.length) : Spec Tryz.prog 147 [.pointer (some ⟨b, o, none⟩), .int .i64 n] (cl true b (A ++ [.int .i64 c, .int .i64 k, .int .i64 v, w] ++ B) t (0, 0)) (X := Unit) (fun _ => .tuple #[]) (fun _ => True) (fun _ => cl true b (A ++ [.int .i64 (IntKind.i64.wrap (c + n)), .int .i64 k, .int .i64 v, w] ++ B) t (0, 0)) := by
  subst ho
  refine spec_of Tryz.func147 rfl Tryz.ntmps147 rfl ?_
  repeat' (first | (refine ex_regk (id := 0) (ts := []) ?_; ((try (first | refine o_mv (v := .pointer _) (by decide) rfl ?_ | refine o_mv (by decide) rfl ?_)) <;> (try (first | refine o_nil (by decide) rfl ?_ | refine o_nil_func (by decide) rfl ?_)) <;> (try (refine o_fieldAddr' (by decide) rfl ?_)) <;> (try (refine o_load_s (v := .int _ _) (by decide) rfl (by first | exact mid_get 0 rfl rfl | exact mid_get 1 rfl rfl | exact mid_get 2 rfl rfl) ?_)) <;> (try (first | refine o_mv (v := .int _ _) (by decide) rfl ?_ | refine o_mv (by decide) rfl ?_)) <;> (try (refine o_int (by decide) rfl rfl rfl ?_)) <;> (try (first | refine o_nil (by decide) rfl ?_ | refine o_nil_func (by decide) rfl ?_)) <;> (try (refine o_fieldAddr' (by decide) rfl ?_)) <;> (try ((refine o_store_s (v := .int _ _) rfl rfl rfl (by first | exact mid_blt 0 rfl (by simp) | exact mid_blt 1 rfl (by simp) | exact mid_blt 2 rfl (by simp)) ?_; first | rw [mid_spl 0 rfl (by simp)] | rw [mid_spl 1 rfl (by simp)] | rw [mid_spl 2 rfl (by simp)]))) <;> (try (refine ops_nilk ?_; intro _)) <;> (try (skip)) <;> (try refine keep_nil ?_))) | refine wC ?_ | (refine ex_split rfl ?_ ?_ <;> intro hc))
  exact fin (.inl rfl) () (resl0 rfl) trivial (ent_cl rfl)
set_option maxHeartbeats 4000000 in
theorem takeM (b : Nat) (A B : List Value) (o : Nat) (c k x v n : Int) (w : Value) (t) (ho : o = A.length) : Spec Tryz.prog 136 [.pointer (some ⟨b, o, none⟩), .int .i64 v, .int .i64 n] (cl true b (A ++ [.int .i64 c, .int .i64 k, .int .i64 x, w] ++ B) t (0, 0)) (X := Unit) (fun _ => .tuple #[]) (fun _ => True) (fun _ => cl true b (A ++ [.int .i64 (IntKind.i64.wrap (c + n)), .int .i64 k, .int .i64 (tk c k x v n), w] ++ B) t (0, 0)) := by
  subst ho
  refine spec_of Tryz.func136 rfl Tryz.ntmps136 rfl ?_
  repeat' (first | (refine ex_regk (id := 0) (ts := [0, 1, 2, 6]) ?_; ((try (first | refine o_mv (v := .pointer _) (by decide) rfl ?_ | refine o_mv (by decide) rfl ?_)) <;> (try (first | refine o_nil (by decide) rfl ?_ | refine o_nil_func (by decide) rfl ?_)) <;> (try (refine o_fieldAddr' (by decide) rfl ?_)) <;> (try (refine o_fieldAddr' (by decide) rfl ?_)) <;> (try (refine o_load_s (v := .int _ _) (by decide) rfl (by first | exact mid_get 0 rfl rfl | exact mid_get 1 rfl rfl | exact mid_get 2 rfl rfl) ?_)) <;> (try (refine o_int (by decide) rfl rfl rfl ?_)) <;> (try (first | refine o_as (v := .bool _) (by decide) rfl ?_ | refine o_as (by decide) rfl ?_)) <;> (try (refine ops_nilk ?_; intro _)) <;> (try ((first | refine keep_cons (v := .pointer _) rfl ?_ | refine keep_cons (v := _) rfl ?_) <;> (first | refine keep_cons (v := .int _ _) rfl ?_ | refine keep_cons (v := _) rfl ?_) <;> (first | refine keep_cons (v := .int _ _) rfl ?_ | refine keep_cons (v := _) rfl ?_) <;> (first | refine keep_cons (v := .bool _) rfl ?_ | refine keep_cons (v := _) rfl ?_))) <;> (try refine keep_nil ?_))) | (refine ex_regk (id := 1) (ts := [0, 1, 2, 6, 13]) ?_; ((try (first | refine o_mv (v := .pointer _) (by decide) rfl ?_ | refine o_mv (by decide) rfl ?_)) <;> (try (first | refine o_nil (by decide) rfl ?_ | refine o_nil_func (by decide) rfl ?_)) <;> (try (refine o_fieldAddr' (by decide) rfl ?_)) <;> (try (refine o_load_s (v := .int _ _) (by decide) rfl (by first | exact mid_get 0 rfl rfl | exact mid_get 1 rfl rfl | exact mid_get 2 rfl rfl) ?_)) <;> (try (refine o_int (by decide) rfl rfl rfl ?_)) <;> (try (first | refine o_as (v := .bool _) (by decide) rfl ?_ | refine o_as (by decide) rfl ?_)) <;> (try (refine ops_nilk ?_; intro _)) <;> (try ((first | refine keep_cons (v := .pointer _) rfl ?_ | refine keep_cons (v := _) rfl ?_) <;> (first | refine keep_cons (v := .int _ _) rfl ?_ | refine keep_cons (v := _) rfl ?_) <;> (first | refine keep_cons (v := .int _ _) rfl ?_ | refine keep_cons (v := _) rfl ?_) <;> (first | refine keep_cons (v := .bool _) rfl ?_ | refine keep_cons (v := _) rfl ?_) <;> (first | refine keep_cons (v := .bool _) rfl ?_ | refine keep_cons (v := _) rfl ?_))) <;> (try refine keep_nil ?_))) | (refine ex_regk (id := 2) (ts := [0, 2]) ?_; ((try (first | refine o_mv (v := .pointer _) (by decide) rfl ?_ | refine o_mv (by decide) rfl ?_)) <;> (try (first | refine o_nil (by decide) rfl ?_ | refine o_nil_func (by decide) rfl ?_)) <;> (try (refine o_fieldAddr' (by decide) rfl ?_)) <;> (try (refine o_load_s (v := .int _ _) (by decide) rfl (by first | exact mid_get 0 rfl rfl | exact mid_get 1 rfl rfl | exact mid_get 2 rfl rfl) ?_)) <;> (try (first | refine o_mv (v := .int _ _) (by decide) rfl ?_ | refine o_mv (by decide) rfl ?_)) <;> (try (refine o_int (by decide) rfl rfl rfl ?_)) <;> (try (first | refine o_nil (by decide) rfl ?_ | refine o_nil_func (by decide) rfl ?_)) <;> (try (refine o_fieldAddr' (by decide) rfl ?_)) <;> (try ((refine o_store_s (v := .int _ _) rfl rfl rfl (by first | exact mid_blt 0 rfl (by simp) | exact mid_blt 1 rfl (by simp) | exact mid_blt 2 rfl (by simp)) ?_; first | rw [mid_spl 0 rfl (by simp)] | rw [mid_spl 1 rfl (by simp)] | rw [mid_spl 2 rfl (by simp)]))) <;> (try (refine ops_nilk ?_; intro _)) <;> (try ((first | refine keep_cons (v := .pointer _) rfl ?_ | refine keep_cons (v := _) rfl ?_) <;> (first | refine keep_cons (v := .int _ _) rfl ?_ | refine keep_cons (v := _) rfl ?_))) <;> (try refine keep_nil ?_))) | (refine ex_regk (id := 3) (ts := [0, 1, 2, 6, 27]) ?_; ((try (first | refine o_mv (v := .pointer _) (by decide) rfl ?_ | refine o_mv (by decide) rfl ?_)) <;> (try (first | refine o_nil (by decide) rfl ?_ | refine o_nil_func (by decide) rfl ?_)) <;> (try (refine o_fieldAddr' (by decide) rfl ?_)) <;> (try (refine o_load_s (v := .int _ _) (by decide) rfl (by first | exact mid_get 0 rfl rfl | exact mid_get 1 rfl rfl | exact mid_get 2 rfl rfl) ?_)) <;> (try (refine o_int (by decide) rfl rfl rfl ?_)) <;> (try (first | refine o_as (v := .bool _) (by decide) rfl ?_ | refine o_as (by decide) rfl ?_)) <;> (try (refine ops_nilk ?_; intro _)) <;> (try ((first | refine keep_cons (v := .pointer _) rfl ?_ | refine keep_cons (v := _) rfl ?_) <;> (first | refine keep_cons (v := .int _ _) rfl ?_ | refine keep_cons (v := _) rfl ?_) <;> (first | refine keep_cons (v := .int _ _) rfl ?_ | refine keep_cons (v := _) rfl ?_) <;> (first | refine keep_cons (v := .bool _) rfl ?_ | refine keep_cons (v := _) rfl ?_) <;> (first | refine keep_cons (v := .bool _) rfl ?_ | refine keep_cons (v := _) rfl ?_))) <;> (try refine keep_nil ?_))) | (refine ex_regk (id := 4) (ts := [0, 2]) ?_; ((try (first | refine o_mv (v := .pointer _) (by decide) rfl ?_ | refine o_mv (by decide) rfl ?_)) <;> (try (first | refine o_nil (by decide) rfl ?_ | refine o_nil_func (by decide) rfl ?_)) <;> (try (refine o_fieldAddr' (by decide) rfl ?_)) <;> (try (refine o_load_s (v := .int _ _) (by decide) rfl (by first | exact mid_get 0 rfl rfl | exact mid_get 1 rfl rfl | exact mid_get 2 rfl rfl) ?_)) <;> (try (first | refine o_mv (v := .int _ _) (by decide) rfl ?_ | refine o_mv (by decide) rfl ?_)) <;> (try (refine o_int (by decide) rfl rfl rfl ?_)) <;> (try (first | refine o_nil (by decide) rfl ?_ | refine o_nil_func (by decide) rfl ?_)) <;> (try (refine o_fieldAddr' (by decide) rfl ?_)) <;> (try ((refine o_store_s (v := .int _ _) rfl rfl rfl (by first | exact mid_blt 0 rfl (by simp) | exact mid_blt 1 rfl (by simp) | exact mid_blt 2 rfl (by simp)) ?_; first | rw [mid_spl 0 rfl (by simp)] | rw [mid_spl 1 rfl (by simp)] | rw [mid_spl 2 rfl (by simp)]))) <;> (try (refine ops_nilk ?_; intro _)) <;> (try ((first | refine keep_cons (v := .pointer _) rfl ?_ | refine keep_cons (v := _) rfl ?_) <;> (first | refine keep_cons (v := .int _ _) rfl ?_ | refine keep_cons (v := _) rfl ?_))) <;> (try refine keep_nil ?_))) | (refine ex_regk (id := 5) (ts := [0, 1, 2, 6, 41]) ?_; ((try (first | refine o_mv (v := .pointer _) (by decide) rfl ?_ | refine o_mv (by decide) rfl ?_)) <;> (try (first | refine o_nil (by decide) rfl ?_ | refine o_nil_func (by decide) rfl ?_)) <;> (try (refine o_fieldAddr' (by decide) rfl ?_)) <;> (try (refine o_load_s (v := .int _ _) (by decide) rfl (by first | exact mid_get 0 rfl rfl | exact mid_get 1 rfl rfl | exact mid_get 2 rfl rfl) ?_)) <;> (try (refine o_int (by decide) rfl rfl rfl ?_)) <;> (try (first | refine o_mv (v := .bool _) (by decide) rfl ?_ | refine o_mv (by decide) rfl ?_)) <;> (try (first | refine g_no rfl (by decide) rfl (by decide) ?_ | refine g_undef rfl rfl (by decide) ?_ | (refine g_yes rfl (by decide) rfl ?_; (first | refine o_mv (v := .bool _) (by decide) rfl ?_ | refine o_mv (by decide) rfl ?_)) | refine g_noF rfl (by decide) rfl (by assumption) (by decide) ?_ | (refine g_yesT rfl (by decide) rfl (by assumption) ?_; (first | refine o_mv (v := .bool _) (by decide) rfl ?_ | refine o_mv (by decide) rfl ?_)) | ((refine g_split rfl (by decide) rfl (by decide) ?_ ?_ <;> intro hc); (first | refine o_mv (v := .bool _) (by decide) rfl ?_ | refine o_mv (by decide) rfl ?_)))) <;> (try (first | refine g_no rfl (by decide) rfl (by decide) ?_ | refine g_undef rfl rfl (by decide) ?_ | (refine g_yes rfl (by decide) rfl ?_; (first | refine o_mv (v := .bool _) (by decide) rfl ?_ | refine o_mv (by decide) rfl ?_)) | refine g_noF rfl (by decide) rfl (by assumption) (by decide) ?_ | (refine g_yesT rfl (by decide) rfl (by assumption) ?_; (first | refine o_mv (v := .bool _) (by decide) rfl ?_ | refine o_mv (by decide) rfl ?_)) | ((refine g_split rfl (by decide) rfl (by decide) ?_ ?_ <;> intro hc); (first | refine o_mv (v := .bool _) (by decide) rfl ?_ | refine o_mv (by decide) rfl ?_)))) <;> (try (first | refine g_no rfl (by decide) rfl (by decide) ?_ | refine g_undef rfl rfl (by decide) ?_ | (refine g_yes rfl (by decide) rfl ?_; (first | refine o_mv (v := .int _ _) (by decide) rfl ?_ | refine o_mv (by decide) rfl ?_)) | refine g_noT rfl (by decide) rfl (by assumption) (by decide) ?_ | (refine g_yesF rfl (by decide) rfl (by assumption) ?_; (first | refine o_mv (v := .int _ _) (by decide) rfl ?_ | refine o_mv (by decide) rfl ?_)) | ((refine g_split rfl (by decide) rfl (by decide) ?_ ?_ <;> intro hc); (first | refine o_mv (v := .int _ _) (by decide) rfl ?_ | refine o_mv (by decide) rfl ?_)))) <;> (try (first | refine g_no rfl (by decide) rfl (by decide) ?_ | refine g_undef rfl rfl (by decide) ?_ | (refine g_yes rfl (by decide) rfl ?_; (first | refine o_mv (v := .pointer _) (by decide) rfl ?_ | refine o_mv (by decide) rfl ?_)) | refine g_noT rfl (by decide) rfl (by assumption) (by decide) ?_ | (refine g_yesF rfl (by decide) rfl (by assumption) ?_; (first | refine o_mv (v := .pointer _) (by decide) rfl ?_ | refine o_mv (by decide) rfl ?_)) | ((refine g_split rfl (by decide) rfl (by decide) ?_ ?_ <;> intro hc); (first | refine o_mv (v := .pointer _) (by decide) rfl ?_ | refine o_mv (by decide) rfl ?_)))) <;> (try (first | refine g_no rfl (by decide) rfl (by decide) ?_ | refine g_undef rfl rfl (by decide) ?_ | (refine g_yes rfl (by decide) rfl ?_; (first | refine o_nil (by decide) rfl ?_ | refine o_nil_func (by decide) rfl ?_)) | refine g_noT rfl (by decide) rfl (by assumption) (by decide) ?_ | (refine g_yesF rfl (by decide) rfl (by assumption) ?_; (first | refine o_nil (by decide) rfl ?_ | refine o_nil_func (by decide) rfl ?_)) | ((refine g_split rfl (by decide) rfl (by decide) ?_ ?_ <;> intro hc); (first | refine o_nil (by decide) rfl ?_ | refine o_nil_func (by decide) rfl ?_)))) <;> (try (first | refine g_no rfl (by decide) rfl (by decide) ?_ | refine g_undef rfl rfl (by decide) ?_ | (refine g_yes rfl (by decide) rfl ?_; (refine o_fieldAddr' (by decide) rfl ?_)) | refine g_noT rfl (by decide) rfl (by assumption) (by decide) ?_ | (refine g_yesF rfl (by decide) rfl (by assumption) ?_; (refine o_fieldAddr' (by decide) rfl ?_)) | ((refine g_split rfl (by decide) rfl (by decide) ?_ ?_ <;> intro hc); (refine o_fieldAddr' (by decide) rfl ?_)))) <;> (try (first | refine g_no rfl (by decide) rfl (by decide) ?_ | refine g_undef rfl rfl (by decide) ?_ | (refine g_yes rfl (by decide) rfl ?_; (refine o_load_s (v := .int _ _) (by decide) rfl (by first | exact mid_get 0 rfl rfl | exact mid_get 1 rfl rfl | exact mid_get 2 rfl rfl) ?_)) | refine g_noT rfl (by decide) rfl (by assumption) (by decide) ?_ | (refine g_yesF rfl (by decide) rfl (by assumption) ?_; (refine o_load_s (v := .int _ _) (by decide) rfl (by first | exact mid_get 0 rfl rfl | exact mid_get 1 rfl rfl | exact mid_get 2 rfl rfl) ?_)) | ((refine g_split rfl (by decide) rfl (by decide) ?_ ?_ <;> intro hc); (refine o_load_s (v := .int _ _) (by decide) rfl (by first | exact mid_get 0 rfl rfl | exact mid_get 1 rfl rfl | exact mid_get 2 rfl rfl) ?_)))) <;> (try (first | refine g_no rfl (by decide) rfl (by decide) ?_ | refine g_undef rfl rfl (by decide) ?_ | (refine g_yes rfl (by decide) rfl ?_; (refine o_int (by decide) rfl rfl rfl ?_)) | refine g_noT rfl (by decide) rfl (by assumption) (by decide) ?_ | (refine g_yesF rfl (by decide) rfl (by assumption) ?_; (refine o_int (by decide) rfl rfl rfl ?_)) | ((refine g_split rfl (by decide) rfl (by decide) ?_ ?_ <;> intro hc); (refine o_int (by decide) rfl rfl rfl ?_)))) <;> (try (first | refine g_no rfl (by decide) rfl (by decide) ?_ | refine g_undef rfl rfl (by decide) ?_ | (refine g_yes rfl (by decide) rfl ?_; (first | refine o_pick_t (v := .bool _) (by decide) rfl rfl ?_ | refine o_pick_f (v := .bool _) (by decide) rfl rfl ?_)) | refine g_noF rfl (by decide) rfl (by assumption) (by decide) ?_ | (refine g_yesT rfl (by decide) rfl (by assumption) ?_; (first | refine o_pick_t (v := .bool _) (by decide) rfl rfl ?_ | refine o_pick_f (v := .bool _) (by decide) rfl rfl ?_)) | ((refine g_split rfl (by decide) rfl (by decide) ?_ ?_ <;> intro hc); (first | refine o_pick_t (v := .bool _) (by decide) rfl rfl ?_ | refine o_pick_f (v := .bool _) (by decide) rfl rfl ?_)))) <;> (try (first | refine o_pick_t (v := .bool _) (by decide) rfl rfl ?_ | refine o_pick_f (v := .bool _) (by decide) rfl rfl ?_)) <;> (try (first | refine o_as (v := .bool _) (by decide) rfl ?_ | refine o_as (by decide) rfl ?_)) <;> (try (refine ops_nilk ?_; intro _)) <;> (try ((first | refine keep_cons (v := .pointer _) rfl ?_ | refine keep_cons (v := _) rfl ?_) <;> (first | refine keep_cons (v := .int _ _) rfl ?_ | refine keep_cons (v := _) rfl ?_) <;> (first | refine keep_cons (v := .int _ _) rfl ?_ | refine keep_cons (v := _) rfl ?_) <;> (first | refine keep_cons (v := .bool _) rfl ?_ | refine keep_cons (v := _) rfl ?_) <;> (first | refine keep_cons (v := .bool _) rfl ?_ | refine keep_cons (v := _) rfl ?_))) <;> (try refine keep_nil ?_))) | (refine ex_regk (id := 6) (ts := [0, 1, 2, 41]) ?_; ((try (first | refine o_mv (v := .pointer _) (by decide) rfl ?_ | refine o_mv (by decide) rfl ?_)) <;> (try (first | refine o_nil (by decide) rfl ?_ | refine o_nil_func (by decide) rfl ?_)) <;> (try (refine o_fieldAddr' (by decide) rfl ?_)) <;> (try (refine o_load_s (v := .int _ _) (by decide) rfl (by first | exact mid_get 0 rfl rfl | exact mid_get 1 rfl rfl | exact mid_get 2 rfl rfl) ?_)) <;> (try (refine o_int (by decide) rfl rfl rfl ?_)) <;> (try (first | refine o_mv (v := .bool _) (by decide) rfl ?_ | refine o_mv (by decide) rfl ?_)) <;> (try (first | refine g_no rfl (by decide) rfl (by decide) ?_ | refine g_undef rfl rfl (by decide) ?_ | (refine g_yes rfl (by decide) rfl ?_; (first | refine o_mv (v := .bool _) (by decide) rfl ?_ | refine o_mv (by decide) rfl ?_)) | refine g_noF rfl (by decide) rfl (by assumption) (by decide) ?_ | (refine g_yesT rfl (by decide) rfl (by assumption) ?_; (first | refine o_mv (v := .bool _) (by decide) rfl ?_ | refine o_mv (by decide) rfl ?_)) | ((refine g_split rfl (by decide) rfl (by decide) ?_ ?_ <;> intro hc); (first | refine o_mv (v := .bool _) (by decide) rfl ?_ | refine o_mv (by decide) rfl ?_)))) <;> (try (first | refine g_no rfl (by decide) rfl (by decide) ?_ | refine g_undef rfl rfl (by decide) ?_ | (refine g_yes rfl (by decide) rfl ?_; (first | refine o_mv (v := .bool _) (by decide) rfl ?_ | refine o_mv (by decide) rfl ?_)) | refine g_noF rfl (by decide) rfl (by assumption) (by decide) ?_ | (refine g_yesT rfl (by decide) rfl (by assumption) ?_; (first | refine o_mv (v := .bool _) (by decide) rfl ?_ | refine o_mv (by decide) rfl ?_)) | ((refine g_split rfl (by decide) rfl (by decide) ?_ ?_ <;> intro hc); (first | refine o_mv (v := .bool _) (by decide) rfl ?_ | refine o_mv (by decide) rfl ?_)))) <;> (try (first | refine g_no rfl (by decide) rfl (by decide) ?_ | refine g_undef rfl rfl (by decide) ?_ | (refine g_yes rfl (by decide) rfl ?_; (first | refine o_mv (v := .int _ _) (by decide) rfl ?_ | refine o_mv (by decide) rfl ?_)) | refine g_noT rfl (by decide) rfl (by assumption) (by decide) ?_ | (refine g_yesF rfl (by decide) rfl (by assumption) ?_; (first | refine o_mv (v := .int _ _) (by decide) rfl ?_ | refine o_mv (by decide) rfl ?_)) | ((refine g_split rfl (by decide) rfl (by decide) ?_ ?_ <;> intro hc); (first | refine o_mv (v := .int _ _) (by decide) rfl ?_ | refine o_mv (by decide) rfl ?_)))) <;> (try (first | refine g_no rfl (by decide) rfl (by decide) ?_ | refine g_undef rfl rfl (by decide) ?_ | (refine g_yes rfl (by decide) rfl ?_; (first | refine o_mv (v := .pointer _) (by decide) rfl ?_ | refine o_mv (by decide) rfl ?_)) | refine g_noT rfl (by decide) rfl (by assumption) (by decide) ?_ | (refine g_yesF rfl (by decide) rfl (by assumption) ?_; (first | refine o_mv (v := .pointer _) (by decide) rfl ?_ | refine o_mv (by decide) rfl ?_)) | ((refine g_split rfl (by decide) rfl (by decide) ?_ ?_ <;> intro hc); (first | refine o_mv (v := .pointer _) (by decide) rfl ?_ | refine o_mv (by decide) rfl ?_)))) <;> (try (first | refine g_no rfl (by decide) rfl (by decide) ?_ | refine g_undef rfl rfl (by decide) ?_ | (refine g_yes rfl (by decide) rfl ?_; (first | refine o_nil (by decide) rfl ?_ | refine o_nil_func (by decide) rfl ?_)) | refine g_noT rfl (by decide) rfl (by assumption) (by decide) ?_ | (refine g_yesF rfl (by decide) rfl (by assumption) ?_; (first | refine o_nil (by decide) rfl ?_ | refine o_nil_func (by decide) rfl ?_)) | ((refine g_split rfl (by decide) rfl (by decide) ?_ ?_ <;> intro hc); (first | refine o_nil (by decide) rfl ?_ | refine o_nil_func (by decide) rfl ?_)))) <;> (try (first | refine g_no rfl (by decide) rfl (by decide) ?_ | refine g_undef rfl rfl (by decide) ?_ | (refine g_yes rfl (by decide) rfl ?_; (refine o_fieldAddr' (by decide) rfl ?_)) | refine g_noT rfl (by decide) rfl (by assumption) (by decide) ?_ | (refine g_yesF rfl (by decide) rfl (by assumption) ?_; (refine o_fieldAddr' (by decide) rfl ?_)) | ((refine g_split rfl (by decide) rfl (by decide) ?_ ?_ <;> intro hc); (refine o_fieldAddr' (by decide) rfl ?_)))) <;> (try (first | refine g_no rfl (by decide) rfl (by decide) ?_ | refine g_undef rfl rfl (by decide) ?_ | (refine g_yes rfl (by decide) rfl ?_; (refine o_load_s (v := .int _ _) (by decide) rfl (by first | exact mid_get 0 rfl rfl | exact mid_get 1 rfl rfl | exact mid_get 2 rfl rfl) ?_)) | refine g_noT rfl (by decide) rfl (by assumption) (by decide) ?_ | (refine g_yesF rfl (by decide) rfl (by assumption) ?_; (refine o_load_s (v := .int _ _) (by decide) rfl (by first | exact mid_get 0 rfl rfl | exact mid_get 1 rfl rfl | exact mid_get 2 rfl rfl) ?_)) | ((refine g_split rfl (by decide) rfl (by decide) ?_ ?_ <;> intro hc); (refine o_load_s (v := .int _ _) (by decide) rfl (by first | exact mid_get 0 rfl rfl | exact mid_get 1 rfl rfl | exact mid_get 2 rfl rfl) ?_)))) <;> (try (first | refine g_no rfl (by decide) rfl (by decide) ?_ | refine g_undef rfl rfl (by decide) ?_ | (refine g_yes rfl (by decide) rfl ?_; (refine o_int (by decide) rfl rfl rfl ?_)) | refine g_noT rfl (by decide) rfl (by assumption) (by decide) ?_ | (refine g_yesF rfl (by decide) rfl (by assumption) ?_; (refine o_int (by decide) rfl rfl rfl ?_)) | ((refine g_split rfl (by decide) rfl (by decide) ?_ ?_ <;> intro hc); (refine o_int (by decide) rfl rfl rfl ?_)))) <;> (try (first | refine g_no rfl (by decide) rfl (by decide) ?_ | refine g_undef rfl rfl (by decide) ?_ | (refine g_yes rfl (by decide) rfl ?_; (first | refine o_pick_t (v := .bool _) (by decide) rfl rfl ?_ | refine o_pick_f (v := .bool _) (by decide) rfl rfl ?_)) | refine g_noF rfl (by decide) rfl (by assumption) (by decide) ?_ | (refine g_yesT rfl (by decide) rfl (by assumption) ?_; (first | refine o_pick_t (v := .bool _) (by decide) rfl rfl ?_ | refine o_pick_f (v := .bool _) (by decide) rfl rfl ?_)) | ((refine g_split rfl (by decide) rfl (by decide) ?_ ?_ <;> intro hc); (first | refine o_pick_t (v := .bool _) (by decide) rfl rfl ?_ | refine o_pick_f (v := .bool _) (by decide) rfl rfl ?_)))) <;> (try (first | refine o_pick_t (v := .bool _) (by decide) rfl rfl ?_ | refine o_pick_f (v := .bool _) (by decide) rfl rfl ?_)) <;> (try (first | refine o_as (v := .bool _) (by decide) rfl ?_ | refine o_as (by decide) rfl ?_)) <;> (try (refine ops_nilk ?_; intro _)) <;> (try ((first | refine keep_cons (v := .pointer _) rfl ?_ | refine keep_cons (v := _) rfl ?_) <;> (first | refine keep_cons (v := .int _ _) rfl ?_ | refine keep_cons (v := _) rfl ?_) <;> (first | refine keep_cons (v := .int _ _) rfl ?_ | refine keep_cons (v := _) rfl ?_) <;> (first | refine keep_cons (v := .bool _) rfl ?_ | refine keep_cons (v := _) rfl ?_))) <;> (try refine keep_nil ?_))) | (refine ex_regk (id := 7) (ts := [0, 2]) ?_; ((try (first | refine o_mv (v := .pointer _) (by decide) rfl ?_ | refine o_mv (by decide) rfl ?_)) <;> (try (first | refine o_mv (v := .int _ _) (by decide) rfl ?_ | refine o_mv (by decide) rfl ?_)) <;> (try (first | refine o_nil (by decide) rfl ?_ | refine o_nil_func (by decide) rfl ?_)) <;> (try (refine o_fieldAddr' (by decide) rfl ?_)) <;> (try ((refine o_store_s (v := .int _ _) rfl rfl rfl (by first | exact mid_blt 0 rfl (by simp) | exact mid_blt 1 rfl (by simp) | exact mid_blt 2 rfl (by simp)) ?_; first | rw [mid_spl 0 rfl (by simp)] | rw [mid_spl 1 rfl (by simp)] | rw [mid_spl 2 rfl (by simp)]))) <;> (try (refine ops_nilk ?_; intro _)) <;> (try ((first | refine keep_cons (v := .pointer _) rfl ?_ | refine keep_cons (v := _) rfl ?_) <;> (first | refine keep_cons (v := .int _ _) rfl ?_ | refine keep_cons (v := _) rfl ?_))) <;> (try refine keep_nil ?_))) | (refine rG 8 [] ?_; ((try refine wO ?_) <;> (try (refine o_callB (by first | exact True.intro | (show _ < _; decide)) rfl rfl (tickM _ A B _ _ _ _ _ _ _ rfl) (fun _ _ => ?_))) <;> (try (refine wK ?_; intro _)))) | refine wC ?_ | (refine ex_split rfl ?_ ?_ <;> intro hc))
  all_goals (try dsimp only [spl, andThen, Nat.zero_add, Nat.add_zero, Nat.reduceAdd])
  all_goals exact fin (.inl rfl) () (resl0 rfl) trivial (ent_cl (by simp_all [tk]; try omega))
theorem addM (b : Nat) (A B : List Value) (o : Nat) (c k x v : Int) (w : Value) (t) (R : HP) (a : Option Addr) (cap : Nat) [hr : RdC R a [Value.int .i64 v]] (ho : o = A.length) : Spec Tryz.prog 126 [.pointer (some ⟨b, o, none⟩), .slice a 1 cap] (cl true b (A ++ [.int .i64 c, .int .i64 k, .int .i64 x, w] ++ B) t (0, 0) * R) (X := Unit) (fun _ => .tuple #[]) (fun _ => True) (fun _ => cl true b (A ++ [.int .i64 (IntKind.i64.wrap (c + 1)), .int .i64 k, .int .i64 (tk c k x v 1), w] ++ B) t (0, 0) * R) := by
  subst ho
  refine spec_of Tryz.func126 rfl Tryz.ntmps126 rfl ?_
  refine Ex.rd_some (a := a) (l := [Value.int .i64 v]) (by simp) (fun ad ha => ?_)
  subst ha
  have hv : ([Value.int .i64 v])[(0 : Int).toNat * 1]? = some (.int .i64 v) := rfl
  have e1 : IntKind.i64.wrap (0 + 1) = 1 := rfl
  have d0 : decide ((0 : Int) < 1) = true := rfl
  have d1 : decide ((1 : Int) < 1) = false := rfl
  repeat' (first | (refine rG 0 [0, 6, 7, 8] ?_; ((try (refine wK ?_; intro _)))) | refine wC ?_ | (refine ex_split rfl ?_ ?_ <;> intro hc))
  refine ex_loop (fun m e H => ∃ g, (m = 1 ∧ e = put (put (put (put g 0 (.pointer (some ⟨b, A.length, none⟩))) 6 (.slice (some ad) 1 cap)) 7 (.int .i64 1)) 8 (.int .i64 0) ∧ H = cl true b (A ++ [.int .i64 c, .int .i64 k, .int .i64 x, w] ++ B) t (0, 0) * R) ∨ (m = 0 ∧ e = put (put (put (put g 0 (.pointer (some ⟨b, A.length, none⟩))) 6 (.slice (some ad) 1 cap)) 7 (.int .i64 1)) 8 (.int .i64 1) ∧ H = cl true b (A ++ [.int .i64 (IntKind.i64.wrap (c + 1)), .int .i64 k, .int .i64 (tk c k x v 1), w] ++ B) t (0, 0) * R)) (m := 1) ⟨_, .inl ⟨rfl, rfl, rfl⟩⟩ ?_
  rintro m e H ⟨g, ⟨rfl, rfl, rfl⟩ | ⟨rfl, rfl, rfl⟩⟩
  · repeat' (first | (refine rG 1 [0, 6, 7, 8, 9] ?_; ((try (refine wK ?_; intro _)))) | (refine rG 2 [0, 5, 6, 7, 8] ?_; ((try (refine wK ?_; intro _)))) | (refine rG 3 [0, 6, 7, 8] ?_; ((try refine wO ?_) <;> (try (refine o_callB (by first | exact True.intro | (show _ < _; decide)) rfl rfl (takeM _ A B _ _ _ _ _ _ _ _ rfl) (fun _ _ => ?_))) <;> (try (refine wK ?_; intro _)))) | (refine rG 4 [0, 6, 7, 8] ?_; ((try (refine wK ?_; intro _)))) | refine wC ?_ | (refine ex_split rfl ?_ ?_ <;> intro hc))
    exact ⟨0, by omega, _, .inr ⟨rfl, rfl, rfl⟩⟩
  · repeat' (first | (refine rG 1 [0, 6, 7, 8, 9] ?_; ((try (refine wK ?_; intro _)))) | refine wC ?_ | (refine ex_split rfl ?_ ?_ <;> intro hc))
    exact fin (.inl rfl) () (resl0 rfl) trivial (Ent.refl _)
set_option maxHeartbeats 40000000 in
theorem giveM (b : Nat) (A B : List Value) (o : Nat) (k : Int) (p : Pt) (t) (R : HP) (s : Sk) (tn : Int) (a : Option Addr) (l : List Rw) (m cap : Nat) {cs : List Value} [hr : RdC R a cs] (hm : m = l.length) (hcs : cs = l.flatMap rwc) (hl : l.length ≤ 1000000) (ho : o = A.length) :
    Spec Tryz.prog 119 [.pointer (some ⟨b, o, none⟩), .agg (sc s).toArray, .int .i64 tn, .slice a m cap] (cl true b (A ++ pcl k p ++ B) t (0, 0) * R) (X := Unit) (fun _ => .int .i64 (gn s.1 tn l : Int)) (fun _ => True) (fun _ => cl true b (A ++ pcl k (gv s.1 tn k p l) ++ B) t (0, 0) * R) := by
  subst hm; subst hcs; subst ho
  refine spec_of Tryz.func119 rfl Tryz.ntmps119 rfl ?_
  repeat' (first | (refine rG 0 [0, 2, 3, 5] ?_; ((try ((refine o_box (by decide) (v := .agg (List.toArray _)) rfl rfl (fun b5 => ?_)))) <;> (try (refine wK ?_; intro _)))) | (refine rG 1 [0, 2, 3, 5, 9] ?_; ((try (refine wK ?_; intro _)))) | (refine rG 2 [0, 2, 5, 9, 12, 13, 14] ?_; ((try (refine wK ?_; intro _)))) | refine wC ?_ | (refine ex_split rfl ?_ ?_ <;> intro hc))
  refine ex_loopE (fun mm e H' => ∃ g, ∃ i : Nat, e = put (put (put (put (put (put (put g 0 (.pointer (some ⟨b, A.length, none⟩))) 2 (.int .i64 tn)) 5 (.pointer (some ⟨b5, 0, none⟩))) 9 (.int .i64 (gn s.1 tn (l.take i) : Int))) 12 (.slice a l.length cap)) 13 (.int .i64 (l.length : Int))) 14 (.int .i64 (i : Int)) ∧
    H' = cl true b5 (sc s) 74 (0, 0) * (cl true b (A ++ pcl k (gv s.1 tn k p (l.take i)) ++ B) t (0, 0) * R) ∧ i ≤ l.length ∧ mm = l.length - i) (m := l.length) ⟨_, 0, rfl, rfl, by omega, by omega⟩ ?_ ?_
  · exact Ent.ofEq rfl
  · rintro mm e H' ⟨g, i, rfl, rfl, hi, rfl⟩
    by_cases hlt : i < l.length
    · have hd : decide ((i : Int) < (l.length : Int)) = true := by simp; omega
      have h0 : 0 ≤ (i : Int) := by omega
      have h1 : (i : Int) < (l.length : Int) := by omega
      refine Ex.rd_some (a := a) (l := l.flatMap rwc) (by rw [flat_len rwc_len]; omega) (fun ad ha => ?_)
      subst ha
      have hv : sub (l.flatMap rwc) ((i : Int).toNat * 5) 5 = some (rwc l[i]) := by rw [Int.toNat_natCast]; exact sub_flat rwc_len l i hlt
      have ei : IntKind.i64.wrap ((i : Int) + 1) = ((i + 1 : Nat) : Int) := by rw [IntKind.wrap_i64]; omega
      have hgn := gn_take s.1 tn l i hlt
      have hgv := gv_take s.1 tn k p l i hlt
      have hle := gn_le s.1 tn (l.take i)
      have hlt2 : (l.take i).length = i := by rw [List.length_take]; omega
      generalize gv s.1 tn k p (l.take i) = q at *
      obtain ⟨c, x, w⟩ := q
      cases hh : hs s.1 tn <;> cases hb : bl l[i].2.2.2.2 s.1
      all_goals
        unfold g1 tkn at hgv
        unfold tkn at hgn
        rw [hh, hb] at hgv hgn
      · rw [if_neg (by decide)] at hgv hgn
        repeat' (first | (refine rG 3 [0, 2, 5, 9, 12, 13, 14, 15] ?_; ((try (refine wK ?_; intro _)))) | (refine rG 4 [0, 2, 5, 9, 11, 12, 13, 14] ?_; ((try refine wO ?_) <;> (try ((refine o_alloc_a (by decide) (fun _ => ?_)))) <;> (try (refine wK ?_; intro _)))) | (refine rG 5 [0, 2, 5, 9, 11, 12, 13, 14, 28] ?_; ((try refine wO ?_) <;> (try (refine o_call (hasV hh) (by first | exact True.intro | (show _ < _; decide)) rfl rfl (fun _ _ => ?_))) <;> (try refine wO ?_) <;> (repeat' (refine g_split rfl (by decide) rfl (by decide) ?_ ?_ <;> intro hc <;> (try refine wO ?_))) <;> (try (skip)) <;> (try refine wO ?_) <;> (repeat' (refine g_split rfl (by decide) rfl (by decide) ?_ ?_ <;> intro hc <;> (try refine wO ?_))) <;> (try (refine wK ?_; intro _)))) | (refine rG 9 [0, 2, 5, 9, 12, 13, 14] ?_; ((try (refine wK ?_; intro _)))) | refine wC ?_ | (refine ex_split rfl ?_ ?_ <;> intro hc))
        rw [ei]
        refine ⟨l.length - (i + 1), by omega, _, ?_, _, i + 1, by rw [hgn]; rfl, rfl, by omega, rfl⟩
        rw [hgv]; exact ent_take
      · rw [if_neg (by decide)] at hgv hgn
        repeat' (first | (refine rG 3 [0, 2, 5, 9, 12, 13, 14, 15] ?_; ((try (refine wK ?_; intro _)))) | (refine rG 4 [0, 2, 5, 9, 11, 12, 13, 14] ?_; ((try refine wO ?_) <;> (try ((refine o_alloc_a (by decide) (fun _ => ?_)))) <;> (try (refine wK ?_; intro _)))) | (refine rG 5 [0, 2, 5, 9, 11, 12, 13, 14, 28] ?_; ((try refine wO ?_) <;> (try (refine o_call (hasV hh) (by first | exact True.intro | (show _ < _; decide)) rfl rfl (fun _ _ => ?_))) <;> (try refine wO ?_) <;> (repeat' (refine g_split rfl (by decide) rfl (by decide) ?_ ?_ <;> intro hc <;> (try refine wO ?_))) <;> (try (skip)) <;> (try refine wO ?_) <;> (repeat' (refine g_split rfl (by decide) rfl (by decide) ?_ ?_ <;> intro hc <;> (try refine wO ?_))) <;> (try (refine wK ?_; intro _)))) | (refine rG 9 [0, 2, 5, 9, 12, 13, 14] ?_; ((try (refine wK ?_; intro _)))) | refine wC ?_ | (refine ex_split rfl ?_ ?_ <;> intro hc))
        rw [ei]
        refine ⟨l.length - (i + 1), by omega, _, ?_, _, i + 1, by rw [hgn]; rfl, rfl, by omega, rfl⟩
        rw [hgv]; exact ent_take
      · rw [if_neg (by decide)] at hgv hgn
        repeat' (first | (refine rG 3 [0, 2, 5, 9, 12, 13, 14, 15] ?_; ((try (refine wK ?_; intro _)))) | (refine rG 4 [0, 2, 5, 9, 11, 12, 13, 14] ?_; ((try refine wO ?_) <;> (try ((refine o_alloc_a (by decide) (fun _ => ?_)))) <;> (try (refine wK ?_; intro _)))) | (refine rG 5 [0, 2, 5, 9, 11, 12, 13, 14, 28] ?_; ((try refine wO ?_) <;> (try (refine o_call (hasV hh) (by first | exact True.intro | (show _ < _; decide)) rfl rfl (fun _ _ => ?_))) <;> (try refine wO ?_) <;> (repeat' (refine g_split rfl (by decide) rfl (by decide) ?_ ?_ <;> intro hc <;> (try refine wO ?_))) <;> (try (refine o_call (gives l[i] s hb) (by first | exact True.intro | (show _ < _; decide)) rfl rfl (fun _ _ => ?_))) <;> (try refine wO ?_) <;> (repeat' (refine g_split rfl (by decide) rfl (by decide) ?_ ?_ <;> intro hc <;> (try refine wO ?_))) <;> (try (refine wK ?_; intro _)))) | (refine rG 9 [0, 2, 5, 9, 12, 13, 14] ?_; ((try (refine wK ?_; intro _)))) | refine wC ?_ | (refine ex_split rfl ?_ ?_ <;> intro hc))
        rw [ei]
        refine ⟨l.length - (i + 1), by omega, _, ?_, _, i + 1, by rw [hgn]; rfl, rfl, by omega, rfl⟩
        rw [hgv]; exact ent_take
      · rw [if_pos (by decide)] at hgv hgn
        have en : IntKind.i64.wrap ((gn s.1 tn (l.take i) : Int) + 1) = ((gn s.1 tn (l.take (i + 1)) : Nat) : Int) := by rw [hgn, IntKind.wrap_i64]; omega
        repeat' (first | (refine rG 3 [0, 2, 5, 9, 12, 13, 14, 15] ?_; ((try (refine wK ?_; intro _)))) | (refine rG 4 [0, 2, 5, 9, 11, 12, 13, 14] ?_; ((try refine wO ?_) <;> (try ((refine o_alloc_a (by decide) (fun _ => ?_)))) <;> (try (refine wK ?_; intro _)))) | (refine rG 5 [0, 2, 5, 9, 11, 12, 13, 14, 28] ?_; ((try refine wO ?_) <;> (try (refine o_call (hasV hh) (by first | exact True.intro | (show _ < _; decide)) rfl rfl (fun _ _ => ?_))) <;> (try refine wO ?_) <;> (repeat' (refine g_split rfl (by decide) rfl (by decide) ?_ ?_ <;> intro hc <;> (try refine wO ?_))) <;> (try (refine o_call (gives l[i] s hb) (by first | exact True.intro | (show _ < _; decide)) rfl rfl (fun _ _ => ?_))) <;> (try refine wO ?_) <;> (repeat' (refine g_split rfl (by decide) rfl (by decide) ?_ ?_ <;> intro hc <;> (try refine wO ?_))) <;> (try (refine wK ?_; intro _)))) | refine wC ?_ | (refine ex_split rfl ?_ ?_ <;> intro hc))
        repeat' (first | (refine rA 6 [0, 2, 5, 9, 12, 13, 14] 7 ?_; ((refine aM 0 ?_) <;> ((refine aN 1 ?_) <;> ((refine aF 2 ?_) <;> ((refine aF 3 ?_) <;> ((refine aO 4 ?_ <;> (refine wO ?_) <;> refine oa_nil ?_) <;> ((refine aO 5 ?_ <;> ((refine o_buildSlice (by decide) rfl rfl rfl (fun _ => ?_))) <;> refine oa_nil ?_) <;> ((refine aO 6 ?_ <;> (refine o_callBR (by first | exact True.intro | (show _ < _; decide)) rfl rfl rfl (addM _ A B _ _ _ _ _ _ _ _ _ _ rfl) (fun _ _ => ?_)) <;> refine oa_nil ?_) <;> ((refine dK ?_; intro _)))))))))) | (refine rA 7 [0, 2, 5, 9, 12, 13, 14] 13 ?_; ((refine aM 0 ?_) <;> ((refine aM 1 ?_) <;> ((refine aN 2 ?_) <;> ((refine aF 3 ?_) <;> ((refine aM 5 ?_) <;> (refine oa_two 4 6 (by kernel_rfl) rfl rfl rfl rfl ?_ ?_ <;> first | (((first | refine o_load_s (v := .int _ _) (by decide) rfl rfl ?_ | refine o_load_s (v := .int _ _) (by decide) rfl (mid_get 3 rfl rfl) ?_) <;> (refine oa_nil ?_) <;> ((refine aO 6 ?_ <;> ((refine o_buildSlice (by decide) rfl rfl rfl (fun _ => ?_))) <;> refine oa_nil ?_) <;> ((refine aO 7 ?_ <;> (refine o_callH (ofE _ _ [tn] _ _ _ rfl rfl (by simp) (off1 _)) (by first | exact True.intro | (show _ < _; decide)) rfl rfl (fun _ _ => ?_)) <;> refine oa_nil ?_) <;> ((refine aO 8 ?_ <;> ((refine o_buildSlice (by decide) rfl rfl rfl (fun _ => ?_))) <;> refine oa_nil ?_) <;> ((refine aO 9 ?_ <;> (refine o_callH (join_ _ _ [w, bt tn] _ _ rfl rfl (by simp)) (by first | exact True.intro | (show _ < _; decide)) rfl rfl (fun _ _ => ?_)) <;> refine oa_nil ?_) <;> ((refine aN 10 ?_) <;> ((refine aF 11 ?_) <;> ((refine aO 12 ?_ <;> ((refine o_store_s (v := .int _ _) rfl rfl rfl (mid_blt 3 rfl (by simp)) ?_; rw [mid_spl 3 rfl (by simp)])) <;> refine oa_nil ?_) <;> ((refine dK ?_; intro _))))))))))) | ((((refine o_buildSlice (by decide) rfl rfl rfl (fun _ => ?_))) <;> (refine oa_nil ?_) <;> (refine oa_two 4 7 (by kernel_rfl) rfl rfl rfl rfl ?_ ?_ <;> first | (((first | refine o_load_s (v := .int _ _) (by decide) rfl rfl ?_ | refine o_load_s (v := .int _ _) (by decide) rfl (mid_get 3 rfl rfl) ?_) <;> (refine oa_nil ?_) <;> ((refine aO 7 ?_ <;> (refine o_callH (ofE _ _ [tn] _ _ _ rfl rfl (by simp) (off1 _)) (by first | exact True.intro | (show _ < _; decide)) rfl rfl (fun _ _ => ?_)) <;> refine oa_nil ?_) <;> ((refine aO 8 ?_ <;> ((refine o_buildSlice (by decide) rfl rfl rfl (fun _ => ?_))) <;> refine oa_nil ?_) <;> ((refine aO 9 ?_ <;> (refine o_callH (join_ _ _ [w, bt tn] _ _ rfl rfl (by simp)) (by first | exact True.intro | (show _ < _; decide)) rfl rfl (fun _ _ => ?_)) <;> refine oa_nil ?_) <;> ((refine aN 10 ?_) <;> ((refine aF 11 ?_) <;> ((refine aO 12 ?_ <;> ((refine o_store_s (v := .int _ _) rfl rfl rfl (mid_blt 3 rfl (by simp)) ?_; rw [mid_spl 3 rfl (by simp)])) <;> refine oa_nil ?_) <;> ((refine dK ?_; intro _)))))))))) | (((refine o_callH (ofE _ _ [tn] _ _ _ rfl rfl (by simp) (off1 _)) (by first | exact True.intro | (show _ < _; decide)) rfl rfl (fun _ _ => ?_)) <;> (refine oa_nil ?_) <;> ((refine aO 4 ?_ <;> (first | refine o_load_s (v := .int _ _) (by decide) rfl rfl ?_ | refine o_load_s (v := .int _ _) (by decide) rfl (mid_get 3 rfl rfl) ?_) <;> refine oa_nil ?_) <;> ((refine aO 8 ?_ <;> ((refine o_buildSlice (by decide) rfl rfl rfl (fun _ => ?_))) <;> refine oa_nil ?_) <;> ((refine aO 9 ?_ <;> (refine o_callH (join_ _ _ [w, bt tn] _ _ rfl rfl (by simp)) (by first | exact True.intro | (show _ < _; decide)) rfl rfl (fun _ _ => ?_)) <;> refine oa_nil ?_) <;> ((refine aN 10 ?_) <;> ((refine aF 11 ?_) <;> ((refine aO 12 ?_ <;> ((refine o_store_s (v := .int _ _) rfl rfl rfl (mid_blt 3 rfl (by simp)) ?_; rw [mid_spl 3 rfl (by simp)])) <;> refine oa_nil ?_) <;> ((refine dK ?_; intro _)))))))))))))))))))) | (refine rG 8 [0, 2, 5, 9, 12, 13, 14] ?_; ((try (refine wK ?_; intro _)))) | (refine rG 9 [0, 2, 5, 9, 12, 13, 14] ?_; ((try (refine wK ?_; intro _)))) | refine wC ?_ | (refine ex_split rfl ?_ ?_ <;> intro hc))
        all_goals (try dsimp only [spl, andThen, Nat.zero_add, Nat.add_zero, Nat.reduceAdd])
        all_goals rw [ei, en, jn2e]
        all_goals
          refine ⟨l.length - (i + 1), by omega, _, ?_, _, i + 1, rfl, rfl, by omega, rfl⟩
          rw [hgv]
          show Ent _ (cl true b5 (sc s) 74 (0, 0) * (cl true b (A ++ [.int .i64 (IntKind.i64.wrap (c + 1)), .int .i64 k, .int .i64 (tk c k x l[i].2.2.1 1), .int .u64 (U (w ||| bt tn))] ++ B) t (0, 0) * R))
          exact ent_take
    · have hil : i = l.length := by omega
      subst hil
      have hd : decide ((l.length : Int) < (l.length : Int)) = false := by simp
      rw [List.take_length]
      repeat' (first | (refine rG 3 [0, 2, 5, 9, 12, 13, 14, 15] ?_; ((try (refine wK ?_; intro _)))) | (refine rG 10 [8] ?_; ((try (refine wK ?_; intro _)))) | refine wC ?_ | (refine ex_split rfl ?_ ?_ <;> intro hc))
      exact fin (.inr rfl) () (resl1 rfl (rv_tmp rfl)) trivial ent_take
end Go.Proofs.YtcelailgedndnaaGreatS
namespace Go.Proofs.YtcelailgedndnaaGreatS
open Go.RowKit
set_option linter.unusedVariables false
set_option linter.unusedSimpArgs false
def order (tick : Int) : List Nat := if tick < 0 then [] else (List.range 8).map fun i => (tick.toNat % 8 + i) % 8
def turnN (bu w : Int) : Int := max 0 (min bu w)
theorem ent_cl2 {H : HP} {b : Nat} {p : Bool} {l l' : List Value} {t : TypeId} {fr : Nat × Nat} {R : HP} [h : HasL H b p l t fr R] (hl : l = l') : Ent H (cl p b l' t fr * R) := by rw [h.eq, hl]; exact Ent.refl _
/-- A turn: who, how many. -/
def trc (x : Int × Int) : List Value := [.int .i64 x.1, .int .i64 x.2]
theorem trc_len (x : Int × Int) : (trc x).length = 2 := rfl
def tr0 (tick : Int) : List (Int × Int) := (order tick).map fun (t : Nat) => ((t : Int), (0 : Int))
theorem order_len (tick : Int) : (order tick).length ≤ 8 := by unfold order; split <;> simp
theorem order_lt (tick : Int) : ∀ t ∈ order tick, t < 8 := by
  intro t h
  unfold order at h
  split at h
  · simp at h
  · obtain ⟨i, _, rfl⟩ := List.mem_map.1 h
    omega
theorem order_nodup (tick : Int) : (order tick).Nodup := by
  unfold order
  split
  · simp
  · have h : tick.toNat % 8 < 8 := Nat.mod_lt _ (by decide)
    have all : ∀ k : Fin 8, ((List.range 8).map fun i => (k.val + i) % 8).Nodup := by decide
    exact all ⟨_, h⟩
theorem flat_set {α : Type} {cells : α → List Value} {sz : Nat} (h : ∀ x, (cells x).length = sz) (l : List α) (i j : Nat) (hi : i < l.length) (x y : α) (v : Value) (hj : j < sz) (hx : l[i] = x) (hy : spl (cells x) j [v] = cells y) :
    spl (l.flatMap cells) (i * sz + j) [v] = (l.set i y).flatMap cells := by
  have e := List.take_append_drop i l
  have e2 : l.drop i = l[i] :: l.drop (i + 1) := List.drop_eq_getElem_cons hi
  have el : l.flatMap cells = (l.take i).flatMap cells ++ cells x ++ (l.drop (i + 1)).flatMap cells := by
    conv => lhs; rw [← e, e2, hx]
    rw [List.flatMap_append, List.flatMap_cons, List.append_assoc]
  have hl : ((l.take i).flatMap cells).length = i * sz := by rw [flat_len h, List.length_take]; congr 1; omega
  rw [el, mid_spl (A := (l.take i).flatMap cells) (x := cells x) (B := (l.drop (i + 1)).flatMap cells) j (by rw [hl]) (by rw [h]; exact hj), hy]
  rw [List.set_eq_take_append_cons_drop, if_pos hi, List.flatMap_append, List.flatMap_cons, List.append_assoc]
theorem tr0_flat (tick : Int) : (tr0 tick).flatMap trc = (tr0 tick).flatMap trc := rfl
set_option linter.unusedVariables false
set_option linter.unusedSimpArgs false
attribute [local irreducible] Ops Ex Spec T V QO OA Rn OS
set_option maxHeartbeats 4000000 in
theorem slOrder (H : HP) (tick : Int) (ht : tick ≤ 4611686018427387904) : Spec Tryz.prog 130 [.int .i64 tick] H (X := Option Addr × Nat) (fun y => .slice y.1 (tr0 tick).length y.2) (fun y => (tr0 tick).length ≤ y.2)
    (fun y => ow 205 2 y.1 (tr0 tick).length y.2 ((tr0 tick).flatMap trc) * H) := by
  by_cases h : tick < 0
  · have d0 : decide (tick < 0) = true := decide_eq_true h
    have e : tr0 tick = [] := by unfold tr0 order; rw [if_pos h]; rfl
    rw [e]
    refine spec_of Tryz.func130 rfl Tryz.ntmps130 rfl ?_
    repeat' (first | (refine rG 0 [0] ?_; ((try (refine wK ?_; intro _)))) | (refine rG 1 [0, 6] ?_; ((try (refine wK ?_; intro _)))) | (refine rG 2 [2] ?_; ((try (refine wK ?_; intro _)))) | refine wC ?_ | (refine ex_split rfl ?_ ?_ <;> intro hc))
    exact fin (.inr rfl) (none, 0) (resl1 rfl (rv_tmp rfl)) (Nat.le_refl _) ent_ow0
  · have d0 : decide (tick < 0) = false := decide_eq_false h
    have eo : order tick = (List.range 8).map fun i => (tick.toNat % 8 + i) % 8 := by unfold order; rw [if_neg h]
    have e8 : (tr0 tick).length = 8 := by unfold tr0; rw [eo]; simp
    rw [e8]
    refine spec_of Tryz.func130 rfl Tryz.ntmps130 rfl ?_
    repeat' (first | (refine rG 0 [0] ?_; ((try (refine wK ?_; intro _)))) | (refine rG 1 [0, 6] ?_; ((try (refine wK ?_; intro _)))) | (refine rG 3 [0, 3] ?_; ((try ((refine o_make (by decide) rfl rfl (by decide) (by decide) (fun b7 => ?_)))) <;> (try (refine wK ?_; intro _)))) | (refine rG 4 [0, 3, 9, 10] ?_; ((try (refine wK ?_; intro _)))) | refine wC ?_ | (refine ex_split rfl ?_ ?_ <;> intro hc))
    have hm0 : tick.tmod 8 = ((tick.toNat % 8 : Nat) : Int) := by rw [Int.tmod_eq_emod_of_nonneg (by omega)]; omega
    have hlt8 : tick.toNat % 8 < 8 := Nat.mod_lt _ (by decide)
    generalize tick.toNat % 8 = K at *
    refine ex_loopE (fun mm e H' => ∃ g, ∃ i : Nat, ∃ L : List (Int × Int), e = put (put (put (put g 0 (.int .i64 tick)) 3 (.slice (some ⟨b7, 0, none⟩) 8 8)) 9 (.int .i64 8)) 10 (.int .i64 (i : Int)) ∧
      H' = ow 205 2 (some ⟨b7, 0, none⟩) 8 8 (L.flatMap trc) * H ∧ L = ((List.range 8).map fun j => (if j < i then (((K + j) % 8 : Nat) : Int) else 0, (0 : Int))) ∧ i ≤ 8 ∧ mm = 8 - i) (m := 8) ⟨_, 0, _, rfl, rfl, rfl, by omega, rfl⟩ ?_ ?_
    · exact Ent.refl _
    · rintro mm e H' ⟨g, i, L, rfl, rfl, hL, hi, rfl⟩
      have hLl : L.length = 8 := by rw [hL]; simp
      by_cases hlt : i < 8
      · have hd : decide ((i : Int) < 8) = true := decide_eq_true (by omega)
        have h0 : 0 ≤ (i : Int) := by omega
        have h1 : (i : Int) < 8 := by omega
        have ei : IntKind.i64.wrap ((i : Int) + 1) = ((i + 1 : Nat) : Int) := by rw [IntKind.wrap_i64]; omega
        have e18 : (IntKind.i64.wrap (tick.tmod 8 + (i : Int))).tmod 8 = (((K + i) % 8 : Nat) : Int) := by
          rw [hm0, IntKind.wrap_i64, Int.tmod_eq_emod_of_nonneg (by omega)]; omega
        have hiL : i < L.length := by omega
        have hget : L[i] = (0, 0) := by simp [hL]
        have hst : ((i : Int).toNat * 2 + 0) < (L.flatMap trc).length := by rw [flat_len trc_len, hLl, Int.toNat_natCast]; omega
        have hset := flat_set trc_len L i 0 hiL (0, 0) ((((K + i) % 8 : Nat) : Int), 0) (.int .i64 (((K + i) % 8 : Nat) : Int)) (by decide) hget rfl
        have hnew : L.set i ((((K + i) % 8 : Nat) : Int), 0) = ((List.range 8).map fun j => (if j < i + 1 then (((K + j) % 8 : Nat) : Int) else 0, (0 : Int))) := by
          rw [hL]
          apply List.ext_getElem
          · simp
          · intro n h1 h2
            rw [List.getElem_set]
            simp only [List.getElem_map, List.getElem_range]
            by_cases hn : i = n
            · subst hn; rw [if_pos rfl, if_pos (by omega)]
            · rw [if_neg hn]
              by_cases hh : n < i
              · rw [if_pos hh, if_pos (by omega)]
              · rw [if_neg hh, if_neg (by omega)]
        repeat' (first | (refine rG 5 [0, 3, 9, 10, 11] ?_; ((try (refine wK ?_; intro _)))) | (refine rG 6 [0, 3, 4, 9, 10] ?_; ((try (refine wK ?_; intro _)))) | (refine ex_regk (id := 7) (ts := [0, 3, 9, 10]) ?_; ((try (first | refine o_mv (v := .slice _ _ _) (by decide) rfl ?_ | refine o_mv (by decide) rfl ?_)) <;> (try (first | refine o_mv (v := .int _ _) (by decide) rfl ?_ | refine o_mv (by decide) rfl ?_)) <;> (try (first | refine o_mv (v := .int _ _) (by decide) rfl ?_ | refine o_mv (by decide) rfl ?_)) <;> (try (refine o_rem (by decide) rfl rfl (by first | decide | assumption | omega) ?_)) <;> (try (first | refine o_mv (v := .int _ _) (by decide) rfl ?_ | refine o_mv (by decide) rfl ?_)) <;> (try (refine o_int (by decide) rfl rfl rfl ?_)) <;> (try (refine o_rem (by decide) rfl rfl (by first | decide | assumption | omega) ?_)) <;> (try (refine o_index (by decide) rfl rfl (by first | decide | assumption | omega) (by first | decide | assumption | omega) ?_)) <;> (try (first | refine o_fieldAddr' (by decide) rfl ?_ | refine o_fieldAddrS (by decide) rfl ?_)) <;> (try ((refine o_store_os (v := .int _ _) rfl rfl rfl hst ?_))) <;> (try (refine ops_nilk ?_; intro _)) <;> (try ((first | refine keep_cons (v := .int _ _) rfl ?_ | refine keep_cons (v := _) rfl ?_) <;> (first | refine keep_cons (v := .slice _ _ _) rfl ?_ | refine keep_cons (v := _) rfl ?_) <;> (first | refine keep_cons (v := .int _ _) rfl ?_ | refine keep_cons (v := _) rfl ?_) <;> (first | refine keep_cons (v := .int _ _) rfl ?_ | refine keep_cons (v := _) rfl ?_))) <;> (try refine keep_nil ?_))) | (refine rG 8 [0, 3, 9, 10] ?_; ((try (refine wK ?_; intro _)))) | refine wC ?_ | (refine ex_split rfl ?_ ?_ <;> intro hc))
        rw [ei, e18, Int.toNat_natCast, hset, hnew]
        exact ⟨8 - (i + 1), by omega, _, Ent.refl _, _, i + 1, _, rfl, rfl, rfl, by omega, rfl⟩
      · have hil : i = 8 := by omega
        subst hil
        have hd : decide (((8 : Nat) : Int) < 8) = false := rfl
        repeat' (first | (refine rG 5 [0, 3, 9, 10, 11] ?_; ((try (refine wK ?_; intro _)))) | (refine rG 9 [2] ?_; ((try (refine wK ?_; intro _)))) | refine wC ?_ | (refine ex_split rfl ?_ ?_ <;> intro hc))
        have hLe : L = tr0 tick := by
          rw [hL]; unfold tr0; rw [eo, List.map_map]
          apply List.map_congr_left
          intro j hj
          rw [if_pos (by simpa using hj)]; rfl
        rw [← hLe]
        exact fin (.inr rfl) (_, 8) (resl1 rfl (rv_tmp rfl)) (by omega) (Ent.refl _)
def planL (bu tick : Int) (W : List Int) : List (Int × Int) := (order tick).map fun (t : Nat) => ((t : Int), turnN bu ((W[t]?).getD 0))
set_option maxHeartbeats 8000000 in
theorem slPlan (H : HP) (bu tick : Int) (a : Option Addr) (W : List Int) (cap : Nat) [hr : RdC H a (W.flatMap (cw .i64))] (hW : W.length = 8) (ht : tick ≤ 4611686018427387904) : Spec Tryz.prog 117 [.int .i64 bu, .int .i64 tick, .slice a W.length cap] H (X := Option Addr × Nat) (fun y => .slice y.1 (planL bu tick W).length y.2) (fun y => (planL bu tick W).length ≤ y.2)
    (fun y => ow 205 2 y.1 (planL bu tick W).length y.2 ((planL bu tick W).flatMap trc) * H) := by
  have h8 := order_len tick
  have hlt8 := order_lt tick
  have e0 : (tr0 tick).length = (order tick).length := by unfold tr0; simp
  have e1 : (planL bu tick W).length = (order tick).length := by unfold planL; simp
  rw [e1]
  refine spec_of Tryz.func117 rfl Tryz.ntmps117 rfl ?_
  repeat' (first | (refine rG 0 [0, 1, 2] ?_; ((try (refine wK ?_; intro _)))) | (refine rG 1 [0, 2, 7] ?_; ((try refine wO ?_) <;> (try ((refine o_callH (slOrder _ tick ht) (by first | exact True.intro | (show _ < _; decide)) rfl rfl (fun y hy => ?_); obtain ⟨ra, rc⟩ := y))) <;> (try (refine wK ?_; intro _)))) | (refine rG 2 [0, 2, 7, 12, 13, 14] ?_; ((try (refine wK ?_; intro _)))) | refine wC ?_ | (refine ex_split rfl ?_ ?_ <;> intro hc))
  have hrc : (order tick).length ≤ rc := by rw [← e0]; exact hy
  rw [e0]
  refine ex_loopE (fun mm e H' => ∃ g, ∃ i : Nat, ∃ L : List (Int × Int), e = put (put (put (put (put (put g 0 (.int .i64 bu)) 2 (.slice a W.length cap)) 7 (.slice ra (order tick).length rc)) 12 (.slice ra (order tick).length rc)) 13 (.int .i64 ((order tick).length : Int))) 14 (.int .i64 (i : Int)) ∧
    H' = ow 205 2 ra (order tick).length rc (L.flatMap trc) * H ∧ L = (order tick).mapIdx (fun j (t : Nat) => ((t : Int), if j < i then turnN bu ((W[t]?).getD 0) else 0)) ∧ i ≤ (order tick).length ∧ mm = (order tick).length - i) (m := (order tick).length) ⟨_, 0, tr0 tick, rfl, rfl, ?_, by omega, rfl⟩ ?_ ?_
  · unfold tr0
    apply List.ext_getElem
    · simp
    · intro n h1 h2; simp
  · exact Ent.refl _
  · rintro mm e H' ⟨g, i, L, rfl, rfl, hL, hi, rfl⟩
    have hLl : L.length = (order tick).length := by rw [hL]; simp
    by_cases hlt : i < (order tick).length
    · have hd : decide ((i : Int) < ((order tick).length : Int)) = true := decide_eq_true (by omega)
      have h0 : 0 ≤ (i : Int) := by omega
      have h1 : (i : Int) < ((order tick).length : Int) := by omega
      have ei : IntKind.i64.wrap ((i : Int) + 1) = ((i + 1 : Nat) : Int) := by rw [IntKind.wrap_i64]; omega
      have hiL : i < L.length := by omega
      have hT := hlt8 _ (List.getElem_mem hlt)
      have hget : L[i] = (((order tick)[i] : Int), 0) := by simp [hL]
      refine Ex.rd_some (a := ra) (l := L.flatMap trc) (by rw [flat_len trc_len]; omega) (fun ad ha => ?_)
      subst ha
      refine Ex.rd_some (a := a) (l := W.flatMap (cw .i64)) (by rw [cw_flat]; omega) (fun wd ha => ?_)
      subst ha
      have hv : sub (L.flatMap trc) ((i : Int).toNat * 2) 2 = some (trc L[i]) := by rw [Int.toNat_natCast]; exact sub_flat trc_len L i hiL
      rw [hget] at hv
      have hnew : L.set i ((((order tick)[i] : Nat) : Int), turnN bu ((W[(order tick)[i]]?).getD 0)) = (order tick).mapIdx (fun j (t : Nat) => ((t : Int), if j < i + 1 then turnN bu ((W[t]?).getD 0) else 0)) := by
        rw [hL]
        apply List.ext_getElem
        · simp
        · intro n h1 h2
          rw [List.getElem_set]
          simp only [List.getElem_mapIdx]
          by_cases hn : i = n
          · subst hn; rw [if_pos rfl, if_pos (by omega)]
          · rw [if_neg hn]
            by_cases hh : n < i
            · rw [if_pos hh, if_pos (by omega)]
            · rw [if_neg hh, if_neg (by omega)]
      generalize (order tick)[i] = T at *
      have hTW : T < W.length := by omega
      have hvw := cw_get (k := .i64) hTW
      have hWg : (W[T]?).getD 0 = W[T] := by rw [List.getElem?_eq_getElem hTW]; rfl
      rw [hWg] at hnew
      generalize W[T] = w at *
      have hst : ((i : Int).toNat * 2 + 1) < (L.flatMap trc).length := by rw [flat_len trc_len, hLl, Int.toNat_natCast]; omega
      have hset := flat_set trc_len L i 1 hiL ((T : Int), 0) ((T : Int), turnN bu w) (.int .i64 (turnN bu w)) (by decide) hget rfl
      have hd2 : decide ((T : Int) < (W.length : Int)) = true := decide_eq_true (by omega)
      have t0 : 0 ≤ (T : Int) := by omega
      have t1 : (T : Int) < (W.length : Int) := by omega
      have e33 : (if (if w < bu then w else bu) > 0 then (if w < bu then w else bu) else 0) = turnN bu w := by unfold turnN; omega
      repeat' (first | (refine rG 3 [0, 2, 7, 12, 13, 14, 15] ?_; ((try (refine wK ?_; intro _)))) | (refine ex_regk (id := 4) (ts := [0, 2, 7, 8, 9, 12, 13, 14]) ?_; ((try (first | refine o_mv (v := .int _ _) (by decide) rfl ?_ | refine o_mv (by decide) rfl ?_)) <;> (try (refine o_index (by decide) rfl rfl (by first | decide | assumption | omega) (by first | decide | assumption | omega) ?_)) <;> (try (refine o_load_ra (vs := trc ((T : Int), 0)) (by decide) rfl hv ?_)) <;> (try ((refine o_alloc_a (by decide) (fun b9 => ?_)))) <;> (try (first | refine o_as (v := .int _ _) (by decide) rfl ?_ | refine o_as (by decide) rfl ?_)) <;> (try (first | refine o_store_a rfl rfl rfl rfl rfl ?_ | refine o_store_oa rfl rfl rfl (Nat.succ_pos _) rfl (by assumption) ?_)) <;> (try (refine ops_nilk ?_; intro _)) <;> (try ((first | refine keep_cons (v := .int _ _) rfl ?_ | refine keep_cons (v := _) rfl ?_) <;> (first | refine keep_cons (v := .slice _ _ _) rfl ?_ | refine keep_cons (v := _) rfl ?_) <;> (first | refine keep_cons (v := .slice _ _ _) rfl ?_ | refine keep_cons (v := _) rfl ?_) <;> (first | refine keep_cons (v := .int _ _) rfl ?_ | refine keep_cons (v := _) rfl ?_) <;> (first | refine keep_cons (v := .pointer _) rfl ?_ | refine keep_cons (v := _) rfl ?_) <;> (first | refine keep_cons (v := .slice _ _ _) rfl ?_ | refine keep_cons (v := _) rfl ?_) <;> (first | refine keep_cons (v := .int _ _) rfl ?_ | refine keep_cons (v := _) rfl ?_) <;> (first | refine keep_cons (v := .int _ _) rfl ?_ | refine keep_cons (v := _) rfl ?_))) <;> (try refine keep_nil ?_))) | refine wC ?_ | (refine ex_split rfl ?_ ?_ <;> intro hc))
      refine Ex.ent ?_ (ent_cl2 (b := b9) (l' := trc ((T : Int), 0)) rfl)
      repeat' (first | (refine rG 5 [0, 2, 7, 8, 9, 12, 13, 14, 23] ?_; ((try (refine wK ?_; intro _)))) | (refine ex_regk (id := 6) (ts := [0, 2, 7, 12, 13, 14]) ?_; ((try (first | refine o_mv (v := .slice _ _ _) (by decide) rfl ?_ | refine o_mv (by decide) rfl ?_)) <;> (try (first | refine o_mv (v := .int _ _) (by decide) rfl ?_ | refine o_mv (by decide) rfl ?_)) <;> (try (first | refine o_mv (v := .int _ _) (by decide) rfl ?_ | refine o_mv (by decide) rfl ?_)) <;> (try (first | refine o_mv (v := .slice _ _ _) (by decide) rfl ?_ | refine o_mv (by decide) rfl ?_)) <;> (try (first | refine o_fieldAddr' (by decide) rfl ?_ | refine o_fieldAddrS (by decide) rfl ?_)) <;> (try (first | refine o_load_s (v := .int _ _) (by decide) rfl rfl ?_ | refine o_load_s (by decide) rfl rfl ?_ | refine o_load_r (by decide) rfl (by assumption) ?_ | refine o_load_r (v := .int _ _) (by decide) rfl rfl ?_)) <;> (try (refine o_index (by decide) rfl rfl (by first | decide | assumption | omega) (by first | decide | assumption | omega) ?_)) <;> (try (refine o_load_r (by decide) rfl hvw ?_)) <;> (try (refine o_min2 (by decide) rfl rfl ?_)) <;> (try (refine o_max2 (by decide) rfl rfl ?_)) <;> (try (refine o_index (by decide) rfl rfl (by first | decide | assumption | omega) (by first | decide | assumption | omega) ?_)) <;> (try (first | refine o_fieldAddr' (by decide) rfl ?_ | refine o_fieldAddrS (by decide) rfl ?_)) <;> (try ((refine o_store_os (v := .int _ _) rfl rfl rfl hst ?_))) <;> (try (refine ops_nilk ?_; intro _)) <;> (try ((first | refine keep_cons (v := .int _ _) rfl ?_ | refine keep_cons (v := _) rfl ?_) <;> (first | refine keep_cons (v := .slice _ _ _) rfl ?_ | refine keep_cons (v := _) rfl ?_) <;> (first | refine keep_cons (v := .slice _ _ _) rfl ?_ | refine keep_cons (v := _) rfl ?_) <;> (first | refine keep_cons (v := .slice _ _ _) rfl ?_ | refine keep_cons (v := _) rfl ?_) <;> (first | refine keep_cons (v := .int _ _) rfl ?_ | refine keep_cons (v := _) rfl ?_) <;> (first | refine keep_cons (v := .int _ _) rfl ?_ | refine keep_cons (v := _) rfl ?_))) <;> (try refine keep_nil ?_))) | (refine rG 7 [0, 2, 7, 12, 13, 14] ?_; ((try (refine wK ?_; intro _)))) | refine wC ?_ | (refine ex_split rfl ?_ ?_ <;> intro hc))
      rw [ei, e33, Int.toNat_natCast, hset, hnew]
      refine ⟨(order tick).length - (i + 1), by omega, _, ?_, _, i + 1, _, rfl, rfl, rfl, by omega, rfl⟩
      exact ent_take
    · have hil : i = (order tick).length := by omega
      subst hil
      have hd : decide (((order tick).length : Int) < ((order tick).length : Int)) = false := by simp
      have hLe : L = planL bu tick W := by
        rw [hL]; unfold planL
        apply List.ext_getElem
        · simp
        · intro n h1 h2
          simp only [List.getElem_mapIdx, List.getElem_map]
          rw [if_pos (by simpa using h1)]
      repeat' (first | (refine rG 3 [0, 2, 7, 12, 13, 14, 15] ?_; ((try (refine wK ?_; intro _)))) | (refine rG 8 [6] ?_; ((try (refine wK ?_; intro _)))) | refine wC ?_ | (refine ex_split rfl ?_ ?_ <;> intro hc))
      rw [← hLe]
      exact fin (.inr rfl) (ra, rc) (resl1 rfl (rv_tmp rfl)) hrc (Ent.refl _)
end Go.Proofs.YtcelailgedndnaaGreatS
namespace Go.Proofs.YtcelailgedndnaaGreatS
set_option linter.unusedSectionVars false
variable [DR]
open Go.RowKit
set_option linter.unusedVariables false
variable {P : Program} {n : Nat} {ops : Array Oper} {H : HP} {K : Env → HP → Prop}
/-- What the kernel looks at: each of those to come leans on earlier ones alone, and leads to the m-th; all from the m-th on lean on the m-th. -/
def confOkE (es : List Nat) (ops : Array Oper) (L0 : Array Bool) (m : Nat) (nxt : List Nat) (ds : List Nat) : Bool :=
  Nat.blt m ops.size && Nat.beq L0.size ops.size &&
  (List.range m).all (fun i => !sel L0 m i || ((deps ops i).all (fun d => Nat.blt d i) &&
    (let j := (nxt[i]?).getD 0; Nat.blt i j && Nat.ble j m && (Nat.beq j m || sel L0 m j) && (deps ops j).contains i))) &&
  (List.range ops.size).all (fun j => Nat.blt j m || L0.getD j true || es.contains j || (Nat.beq j m || (deps ops j).any (fun d => Nat.ble m d && Nat.blt d ops.size && !L0.getD d true))) &&
  (List.range m).all (fun i => !sel L0 m i || (List.range m).all (fun j => !sel L0 m j || (Nat.beq i j || !Nat.beq ((ds[i]?).getD 0) ((ds[j]?).getD 0))))
structure ConfE (ops : Array Oper) (l : List (Nat × Value)) (L0 : Array Bool) (e0 : Env) (m : Nat) (listed : Array Bool) (e : Env) : Prop where
  size : listed.size = ops.size
  old : ∀ i, L0.getD i true = true → listed.getD i true = true
  tail : ∀ j, m ≤ j → j < ops.size → listed.getD j true = L0.getD j true
  closed : ∀ i, sel L0 m i = true → listed.getD i true = true → ∀ d ∈ deps ops i, listed.getD d false = true
  yes : ∀ i, sel L0 m i = true → listed.getD i true = true → e (Vl l i).1 = (Vl l i).2
  no : ∀ t, (∀ i, sel L0 m i = true → (Vl l i).1 ≠ t) → e t = e0 t
  no2 : ∀ i, sel L0 m i = true → listed.getD i true = false → e (Vl l i).1 = e0 (Vl l i).1
theorem oa_confE (l : List (Nat × Value)) (L0 : Array Bool) (e0 : Env) (m tail : Nat) (nxt : List Nat) (es : List Nat) (ok : confOkE es ops L0 m nxt (l.map (·.1)) = true) (hlen : l.length = m)
    (step : ∀ (i : Nat) (e : Env) (Φ : Post), sel L0 m i = true → (∀ d ∈ deps ops i, sel L0 m d = true → e (Vl l d).1 = (Vl l d).2) → (∀ t, (∀ i, sel L0 m i = true → (Vl l i).1 ≠ t) → e t = e0 t) →
      (∀ H'', Ent H'' H → Φ .normal (put e (Vl l i).1 (Vl l i).2) H'') → ∃ o, ops[i]? = some o ∧ Ops P n ops [o] e H Φ)
    (early : ∀ j, es.contains j = true → m ≤ j → j < ops.size → L0.getD j true = false → ∀ (k : Nat) (listed : Array Bool) (e : Env), left m listed = k + 1 → ConfE ops l L0 e0 m listed e → ∃ o, ops[j]? = some o ∧ Ops P n ops [o] e H (fun x e' H' => x = .normal ∧ OA P n ops (k + tail) (listed.setIfInBounds j true) e' H' K))
    (fin : ∀ (listed : Array Bool), listed = (List.range m).foldl (fun L i => L.setIfInBounds i true) L0 → OA P n ops tail listed (confEnv l L0 e0 m) H K) :
    ∀ (k : Nat) (listed : Array Bool) (e : Env), left m listed = k → ConfE ops l L0 e0 m listed e → OA P n ops (k + tail) listed e H K := by
  simp only [confOkE, Bool.and_eq_true] at ok
  obtain ⟨⟨⟨⟨ok1, ok2⟩, ok3⟩, ok4⟩, ok5⟩ := ok
  have hm : m < ops.size := Nat.lt_of_lt_of_le (Nat.le_of_ble_eq_true ok1) (Nat.le_refl _)
  have hL : L0.size = ops.size := Nat.eq_of_beq_eq_true ok2
  have selm : ∀ i, sel L0 m i = true → i < m ∧ L0.getD i true = false := fun i h => by
    unfold sel at h
    rw [Bool.and_eq_true, Bool.not_eq_true'] at h
    exact ⟨Nat.le_of_ble_eq_true h.1, h.2⟩
  have mksel : ∀ i, i < m → L0.getD i true = false → sel L0 m i = true := fun i h1 h2 => by
    unfold sel
    rw [Bool.and_eq_true, Bool.not_eq_true']
    exact ⟨Nat.ble_eq_true_of_le h1, h2⟩
  have c3 : ∀ i, sel L0 m i = true → (∀ d ∈ deps ops i, d < i) ∧ ∃ j, i < j ∧ j ≤ m ∧ (j = m ∨ sel L0 m j = true) ∧ i ∈ deps ops j := fun i h => by
    have := List.all_eq_true.1 ok3 i (List.mem_range.2 (selm i h).1)
    rw [h] at this
    simp only [Bool.not_true, Bool.false_or, Bool.and_eq_true, Bool.or_eq_true] at this
    obtain ⟨h1, ⟨⟨h2, h3⟩, h4⟩, h5⟩ := this
    refine ⟨fun d hd => Nat.le_of_ble_eq_true (List.all_eq_true.1 h1 d hd), _, Nat.le_of_ble_eq_true h2, Nat.le_of_ble_eq_true h3, ?_, by simpa using h5⟩
    rcases h4 with h4 | h4
    · exact .inl (Nat.eq_of_beq_eq_true h4)
    · exact .inr h4
  have c4 : ∀ j, m ≤ j → j < ops.size → L0.getD j true = true ∨ es.contains j = true ∨ (j = m ∨ ∃ d ∈ deps ops j, m ≤ d ∧ d < ops.size ∧ L0.getD d true = false) := fun j h1 h2 => by
    have := List.all_eq_true.1 ok4 j (List.mem_range.2 h2)
    rw [Bool.or_eq_true, Bool.or_eq_true, Bool.or_eq_true] at this
    rcases this with ((h | h) | h) | h
    · exact absurd (Nat.le_of_ble_eq_true h) (by omega)
    · exact .inl h
    · exact .inr (.inl h)
    · rw [Bool.or_eq_true] at h
      rcases h with h3 | h3
      · exact .inr (.inr (.inl (Nat.eq_of_beq_eq_true h3)))
      · obtain ⟨d, hd, hh⟩ := List.any_eq_true.1 h3
        rw [Bool.and_eq_true, Bool.and_eq_true, Bool.not_eq_true'] at hh
        exact .inr (.inr (.inr ⟨d, hd, Nat.le_of_ble_eq_true hh.1.1, Nat.le_of_ble_eq_true hh.1.2, hh.2⟩))
  have inj : ∀ i j, sel L0 m i = true → sel L0 m j = true → (Vl l i).1 = (Vl l j).1 → i = j := fun i j hi hj he => by
    have := List.all_eq_true.1 ok5 i (List.mem_range.2 (selm i hi).1)
    rw [hi] at this
    simp only [Bool.not_true, Bool.false_or] at this
    have := List.all_eq_true.1 this j (List.mem_range.2 (selm j hj).1)
    rw [hj] at this
    simp only [Bool.not_true, Bool.false_or, Bool.or_eq_true, Bool.not_eq_true'] at this
    rcases this with h | h
    · exact Nat.eq_of_beq_eq_true h
    · exfalso
      have hli : i < l.length := by rw [hlen]; exact (selm i hi).1
      have hlj : j < l.length := by rw [hlen]; exact (selm j hj).1
      unfold Vl at he
      rw [List.getElem?_eq_getElem hli, List.getElem?_eq_getElem hlj] at he
      simp only [Option.getD_some] at he
      rw [List.getElem?_map, List.getElem?_map, List.getElem?_eq_getElem hli, List.getElem?_eq_getElem hlj] at h
      simp only [Option.map_some, Option.getD_some] at h
      rw [he] at h
      simp at h
  intro k
  induction k with
  | zero =>
    intro listed e hk hc
    have hall := left_zero hk
    have he : e = confEnv l L0 e0 m := by
      funext t
      have key : ∀ m', m' ≤ m → (∀ i, i < m' → sel L0 m i = true → (Vl l i).1 = t → confEnv l L0 e0 m' t = (Vl l i).2) ∧ ((∀ i, i < m' → sel L0 m i = true → (Vl l i).1 ≠ t) → confEnv l L0 e0 m' t = e0 t) := by
        intro m'
        induction m' with
        | zero => intro _; exact ⟨fun i hi => by omega, fun _ => rfl⟩
        | succ m' ih =>
          intro hm'
          obtain ⟨ih1, ih2⟩ := ih (by omega)
          unfold confEnv
          cases hs : L0.getD m' true with
          | true =>
            rw [cond_true]
            have hns : ¬ sel L0 m m' = true := fun h => by rw [(selm m' h).2] at hs; cases hs
            refine ⟨fun i hi hsi ht => ih1 i ?_ hsi ht, fun hno => ih2 fun i hi => hno i (by omega)⟩
            have : i ≠ m' := fun e => hns (e ▸ hsi)
            omega
          | false =>
            rw [cond_false]
            have hsm := mksel m' (by omega) hs
            by_cases hb : (Vl l m').1 = t
            · have hp : put (confEnv l L0 e0 m') (Vl l m').1 (Vl l m').2 t = (Vl l m').2 := by unfold put; rw [hb]; simp
              refine ⟨fun i hi hsi ht => ?_, fun hno => absurd hb (hno m' (by omega) hsm)⟩
              have : i = m' := inj i m' hsi hsm (ht.trans hb.symm)
              rw [hp, this]
            · have hp : put (confEnv l L0 e0 m') (Vl l m').1 (Vl l m').2 t = confEnv l L0 e0 m' t := by
                unfold put
                have hbe : Nat.beq t (Vl l m').1 = false := by
                  cases h : Nat.beq t (Vl l m').1 with
                  | false => rfl
                  | true => exact absurd (Nat.eq_of_beq_eq_true h).symm hb
                rw [hbe]; rfl
              rw [hp]
              refine ⟨fun i hi hsi ht => ih1 i ?_ hsi ht, fun hno => ih2 fun i hi => hno i (by omega)⟩
              have : i ≠ m' := fun e => hb (e ▸ ht)
              omega
      obtain ⟨k1, k2⟩ := key m (Nat.le_refl _)
      by_cases hex : ∃ i, sel L0 m i = true ∧ (Vl l i).1 = t
      · obtain ⟨i, hi, ht⟩ := hex
        rw [k1 i (selm i hi).1 hi ht, ← ht]
        exact hc.yes i hi (hall i (selm i hi).1)
      · have hno : ∀ i, sel L0 m i = true → (Vl l i).1 ≠ t := fun i hi ht => hex ⟨i, hi, ht⟩
        rw [k2 fun i _ => hno i]
        exact hc.no t hno
    subst he
    rw [Nat.zero_add]
    refine fin listed ?_
    have hfold : ∀ m', m' ≤ m → ((List.range m').foldl (fun L i => L.setIfInBounds i true) L0).size = ops.size ∧ ∀ j, ((List.range m').foldl (fun L i => L.setIfInBounds i true) L0).getD j true = (L0.getD j true || decide (j < m')) := by
      intro m'
      induction m' with
      | zero => intro _; exact ⟨hL, fun j => by simp⟩
      | succ m' ih =>
        intro hm'
        obtain ⟨i1, i2⟩ := ih (by omega)
        rw [List.range_succ, List.foldl_append]
        refine ⟨by simpa using i1, fun j => ?_⟩
        simp only [List.foldl_cons, List.foldl_nil]
        by_cases hj : j = m'
        · subst hj
          have hlt : j < ((List.range j).foldl (fun L i => L.setIfInBounds i true) L0).size := by rw [i1]; omega
          simp [Array.getD_eq_getD_getElem?, hlt]
        · have h1 := i2 j
          simp only [Array.getD_eq_getD_getElem?, Array.getElem?_setIfInBounds_ne (Ne.symm hj)] at h1 ⊢
          rw [h1]
          congr 1
          rw [decide_eq_decide]; omega
    obtain ⟨f1, f2⟩ := hfold m (Nat.le_refl _)
    refine Array.ext (by rw [hc.size, f1]) fun j h1 h2 => ?_
    have e1 : listed.getD j true = listed[j] := by simp [Array.getD_eq_getD_getElem?, Array.getElem?_eq_getElem h1]
    have e2 : ((List.range m).foldl (fun L i => L.setIfInBounds i true) L0).getD j true = ((List.range m).foldl (fun L i => L.setIfInBounds i true) L0)[j] := by simp [Array.getD_eq_getD_getElem?, Array.getElem?_eq_getElem h2]
    rw [← e1, ← e2, f2 j]
    have hjs : j < ops.size := by rw [← hc.size]; exact h1
    by_cases hj : j < m
    · rw [hall j hj, decide_eq_true hj, Bool.or_true]
    · rw [hc.tail j (by omega) hjs, decide_eq_false hj, Bool.or_false]
  | succ k ih =>
    intro listed e hk hc
    rw [Nat.add_right_comm]
    -- one that is to come
    have hex : ∃ i, i < m ∧ listed.getD i true = false ∧ ∀ j, j < i → listed.getD j true = true := by
      have hne : ∃ i, i < m ∧ listed.getD i true = false := by
        refine Classical.byContradiction fun hn => ?_
        have : left m listed = 0 := by
          unfold left
          rw [List.length_eq_zero_iff, List.filter_eq_nil_iff]
          intro i hi
          have := List.mem_range.1 hi
          cases h : listed.getD i true with
          | true => simp
          | false => exact absurd ⟨i, this, h⟩ hn
        omega
      obtain ⟨i, hi, hli⟩ := hne
      have : ∀ b, (∃ i, i < b ∧ i < m ∧ listed.getD i true = false) → ∃ i, i < m ∧ listed.getD i true = false ∧ ∀ j, j < i → listed.getD j true = true := by
        intro b
        induction b with
        | zero => rintro ⟨i, h, _⟩; omega
        | succ b ihb =>
          rintro ⟨i, hib, him, hif⟩
          by_cases hs : ∃ j, j < b ∧ j < m ∧ listed.getD j true = false
          · exact ihb hs
          · refine ⟨i, him, hif, fun j hj => ?_⟩
            cases h : listed.getD j true with
            | true => rfl
            | false => exact absurd ⟨j, by omega, by omega, h⟩ hs
      exact this m ⟨i, hi, hi, hli⟩
    have unsel : ∀ i, i < m → listed.getD i true = false → sel L0 m i = true := fun i h1 h2 => mksel i h1 (by
      cases h : L0.getD i true with
      | false => rfl
      | true => rw [hc.old i h] at h2; cases h2)
    obtain ⟨i0, hi0, hl0, hmin⟩ := hex
    have hops : ∀ i, i < ops.size → ∃ o, ops[i]? = some o := fun i hi => ⟨ops[i], Array.getElem?_eq_getElem hi⟩
    have hready : i0 ∈ Region.ready .any ops listed := ready_deps.2 ⟨hl0, hops i0 (by omega), fun d hd => by
      have := (c3 i0 (unsel i0 hi0 hl0)).1 d hd
      rw [getD_ft (by rw [hc.size]; omega)]
      exact hmin d this⟩
    have hblock : ∀ b i, m - i = b → sel L0 m i = true → listed.getD i true = false → m ∉ Region.ready .any ops listed := by
      intro b
      induction b using Nat.strongRecOn with
      | _ b ihb =>
        intro i hb hsi hli hmr
        obtain ⟨_, j, hij, hjm, hj, hdep⟩ := c3 i hsi
        have hif : listed.getD i false = false := by rw [getD_ft (by rw [hc.size]; have := (selm i hsi).1; omega)]; exact hli
        rcases hj with rfl | hj
        · have := (ready_deps.1 hmr).2.2 i hdep
          rw [hif] at this; cases this
        · have hlj : listed.getD j true = false := by
            cases h : listed.getD j true with
            | false => rfl
            | true => have := hc.closed j hj h i hdep; rw [hif] at this; cases this
          have := (selm j hj).1
          exact ihb (m - j) (by omega) j rfl hj hlj hmr
    have hr : ∀ i ∈ Region.ready .any ops listed, (i < m ∧ listed.getD i true = false) ∨ (es.contains i = true ∧ m ≤ i ∧ i < ops.size ∧ L0.getD i true = false) := fun i hi => by
      obtain ⟨h1, ⟨o, ho⟩, h3⟩ := ready_deps.1 hi
      have his : i < ops.size := (Array.getElem?_eq_some_iff.1 ho).1
      by_cases hn : i < m
      · exact .inl ⟨hn, h1⟩
      · refine .inr ?_
        have hL0 := hc.tail i (by omega) his
        rw [h1] at hL0
        rcases c4 i (by omega) his with h | h | rfl | ⟨d, hd, hd1, hd2, hd3⟩
        · rw [← hL0] at h; cases h
        · exact ⟨h, by omega, his, hL0.symm⟩
        · exact absurd hi (hblock _ i0 rfl (unsel i0 hi0 hl0) hl0)
        · have := h3 d hd
          rw [getD_ft (by rw [hc.size]; exact hd2), hc.tail d hd1 hd2, hd3] at this; cases this
    intro a w0 w F r s
    refine And.intro (fun h0 => by rw [h0] at hready; cases hready) (fun i hi => ?_)
    rcases hr i hi with ⟨him, hil⟩ | ⟨g1, g2, g3, g4⟩
    case inr =>
      obtain ⟨o, ho, hop⟩ := early i g1 g2 g3 g4 k listed e (by omega) hc
      exact wp_oneG i r s ho hop
    have hsi := unsel i him hil
    obtain ⟨_, _, hdl⟩ := ready_deps.1 hi
    have hisz : i < listed.size := by rw [hc.size]; omega
    have hne2 : ∀ j b, j ≠ i → (listed.setIfInBounds i true).getD j b = listed.getD j b := fun j b hj => by
      simp only [Array.getD_eq_getD_getElem?, Array.getElem?_setIfInBounds_ne (Ne.symm hj)]
    have hself : ∀ b, (listed.setIfInBounds i true).getD i b = true := fun b => by simp [Array.getD_eq_getD_getElem?, hisz]
    have hmono : ∀ j, listed.getD j false = true → (listed.setIfInBounds i true).getD j false = true := fun j h => by
      by_cases hj : j = i
      · rw [hj]; exact hself _
      · rw [hne2 j _ hj]; exact h
    have hnew : ConfE ops l L0 e0 m (listed.setIfInBounds i true) (put e (Vl l i).1 (Vl l i).2) := by
      have hput : ∀ t, t ≠ (Vl l i).1 → put e (Vl l i).1 (Vl l i).2 t = e t := fun t ht => by
        unfold put
        have hbe : Nat.beq t (Vl l i).1 = false := by
          cases h : Nat.beq t (Vl l i).1 with
          | false => rfl
          | true => exact absurd (Nat.eq_of_beq_eq_true h) ht
        rw [hbe]; rfl
      have hputs : put e (Vl l i).1 (Vl l i).2 (Vl l i).1 = (Vl l i).2 := by unfold put; simp
      refine ⟨by simpa using hc.size, fun j hj => ?_, fun j h1 h2 => ?_, fun j hsj hlj d hd => ?_, fun j hsj hlj => ?_, fun t ht => ?_, fun j hsj hlj => ?_⟩
      · by_cases h : j = i
        · rw [h]; exact hself _
        · rw [hne2 j _ h]; exact hc.old j hj
      · rw [hne2 j _ (by omega)]; exact hc.tail j h1 h2
      · by_cases h : j = i
        · subst h; exact hmono d (hdl d hd)
        · rw [hne2 j _ h] at hlj
          exact hmono d (hc.closed j hsj hlj d hd)
      · by_cases h : j = i
        · subst h; exact hputs
        · rw [hne2 j _ h] at hlj
          rw [hput _ fun he => h (inj j i hsj hsi he)]
          exact hc.yes j hsj hlj
      · rw [hput t fun he => ht i hsi he.symm]
        exact hc.no t ht
      · have h : j ≠ i := fun h => by rw [h, hself] at hlj; cases hlj
        rw [hne2 j _ h] at hlj
        rw [hput _ fun he => h (inj j i hsj hsi he)]
        exact hc.no2 j hsj hlj
    obtain ⟨o, ho, hop⟩ := step i e (fun x e' H' => x = .normal ∧ OA P n ops (k + tail) (listed.setIfInBounds i true) e' H' K) hsi
      (fun d hd hsd => hc.yes d hsd (by
        have := hdl d hd
        rw [getD_ft (by rw [hc.size]; have := (selm d hsd).1; omega)] at this
        exact this))
      hc.no (fun H'' hent => ⟨rfl, OA.ent (ih _ _ (by have := left_set him hisz hil; omega) hnew) hent⟩)
    exact wp_oneG i r s ho hop
theorem stepE (l : List (Nat × Value)) (ds : List Nat) (listed : Array Bool) (e : Env) (m : Nat) (S : List Nat) (hlen : l.length = m) (hds : l.map (·.1) = ds)
    (hS : ((List.range m).all fun i => !sel listed m i || S.contains i) = true) (step : ∀ i ∈ S, Stp P n ops H l ds listed e m i) :
    ∀ (i : Nat) (e' : Env) (Φ : Post), sel listed m i = true → (∀ d ∈ deps ops i, sel listed m d = true → e' (Vl l d).1 = (Vl l d).2) → (∀ t, (∀ i, sel listed m i = true → (Vl l i).1 ≠ t) → e' t = e t) →
      (∀ H'', Ent H'' H → Φ .normal (put e' (Vl l i).1 (Vl l i).2) H'') → ∃ o, ops[i]? = some o ∧ Ops P n ops [o] e' H Φ := by
  intro i e' Φ hs hd ho kk
  subst hds
  have selm : ∀ i, sel listed m i = true → i < m ∧ listed.getD i true = false := fun i h => by
    unfold sel at h
    rw [Bool.and_eq_true, Bool.not_eq_true'] at h
    exact ⟨Nat.le_of_ble_eq_true h.1, h.2⟩
  have hmem : i ∈ S := by
    have := List.all_eq_true.1 hS i (List.mem_range.2 (selm i hs).1)
    rw [hs] at this
    simpa using this
  refine step i hmem e' Φ (fun d hd' => hd d (by simpa using hd')) (fun t ht => ho t fun j hsj he => ?_) kk
  have := List.all_eq_true.1 ht j (List.mem_range.2 (selm j hsj).1)
  rw [hsj] at this
  simp only [Bool.not_true, Bool.false_or, Bool.not_eq_true'] at this
  have hlj : j < l.length := by rw [hlen]; exact (selm j hsj).1
  unfold Vl at he
  rw [List.getElem?_eq_getElem hlj] at he
  rw [List.getElem?_map, List.getElem?_eq_getElem hlj] at this
  simp only [Option.getD_some, Option.map_some] at he this
  rw [he] at this
  simp at this
theorem oa_confsE (l : List (Nat × Value)) (ds : List Nat) (listed : Array Bool) (e : Env) (m k tail fuel : Nat) (nxt S : List Nat) (es : List Nat) (ok : confOkE es ops listed m nxt ds = true) (hlen : l.length = m) (hds : l.map (·.1) = ds) (hk : left m listed = k) (hf : fuel = k + tail)
    (hS : ((List.range m).all fun i => !sel listed m i || S.contains i) = true) (step : ∀ i ∈ S, Stp P n ops H l ds listed e m i)
    (early : ∀ j, es.contains j = true → m ≤ j → j < ops.size → listed.getD j true = false → ∀ (k : Nat) (listed' : Array Bool) (e' : Env), left m listed' = k + 1 → ConfE ops l listed e m listed' e' → ∃ o, ops[j]? = some o ∧ Ops P n ops [o] e' H (fun x e'' H' => x = .normal ∧ OA P n ops (k + tail) (listed'.setIfInBounds j true) e'' H' K))
    (fin : OA P n ops tail ((List.range m).foldl (fun L i => L.setIfInBounds i true) listed) (confEnv l listed e m) H K) : OA P n ops fuel listed e H K := by
  subst hf; subst hds
  have ok' := ok
  simp only [confOkE, Bool.and_eq_true] at ok'
  obtain ⟨⟨⟨⟨ok1, ok2⟩, ok3⟩, ok4⟩, ok5⟩ := ok'
  have selm : ∀ i, sel listed m i = true → i < m ∧ listed.getD i true = false := fun i h => by
    unfold sel at h
    rw [Bool.and_eq_true, Bool.not_eq_true'] at h
    exact ⟨Nat.le_of_ble_eq_true h.1, h.2⟩
  exact oa_confE l listed e m tail nxt es ok hlen (stepE l (l.map (·.1)) listed e m S hlen rfl hS step) early (fun L hL => by subst hL; exact fin) k listed e hk ⟨Nat.eq_of_beq_eq_true ok2, fun i h => h, fun j h1 h2 => rfl, fun i hs hl => (by rw [(selm i hs).2] at hl; cases hl), fun i hs hl => (by rw [(selm i hs).2] at hl; cases hl), fun t _ => rfl, fun i _ _ => rfl⟩
/-- Which one it is. -/
theorem oa_sel {o : Oper} {Φ : Post} {e : Env} {d : Option Nat} (h : o.dst = d) (k : Ops P n ops [o] e H Φ) : Ops P n ops [o] e H Φ := k
/-- An alloc that leans on nothing, beside those that come in any order: listed or not, they go on. -/
theorem oa_confsA (l : List (Nat × Value)) (ds : List Nat) (listed : Array Bool) (e : Env) (m k tail fuel : Nat) (nxt S : List Nat) (ia da t sz : Nat) (z : List Value) (ty : TypeId) (ps : String) (af : Array Edge) [c : Ag P t sz z]
    (ok : confOkE [ia] ops listed m nxt ds = true) (ok2 : confOkE [] ops (listed.setIfInBounds ia true) m nxt ds = true) (hia : (Nat.ble m ia && Nat.blt ia ops.size && !listed.getD ia true && !ds.contains da) = true)
    (hop : ops[ia]? = some ⟨some da, .alloc t, ty, ps, af, none⟩) (hda : da < n)
    (hlen : l.length = m) (hds : l.map (·.1) = ds) (hk : left m listed = k) (hf : fuel = k + (tail + 1))
    (hS : ((List.range m).all fun i => !sel listed m i || S.contains i) = true) (step : ∀ i ∈ S, Stp P n ops H l ds listed e m i)
    (step2 : ∀ b, ∀ i ∈ S, Stp P n ops (cl true b z t (0, 0) * H) l ds (listed.setIfInBounds ia true) (put e da (.pointer (some ⟨b, 0, none⟩))) m i)
    (fin : OA P n ops (tail + 1) ((List.range m).foldl (fun L i => L.setIfInBounds i true) listed) (confEnv l listed e m) H K)
    (fin2 : ∀ b, OA P n ops tail ((List.range m).foldl (fun L i => L.setIfInBounds i true) (listed.setIfInBounds ia true)) (confEnv l (listed.setIfInBounds ia true) (put e da (.pointer (some ⟨b, 0, none⟩))) m) (cl true b z t (0, 0) * H) K) : OA P n ops fuel listed e H K := by
  simp only [Bool.and_eq_true, Bool.not_eq_true'] at hia
  obtain ⟨⟨⟨i1, i2⟩, i3⟩, i4⟩ := hia
  have i1 : m ≤ ia := Nat.le_of_ble_eq_true i1
  have i2 : ia < ops.size := Nat.le_of_ble_eq_true i2
  have hsel : ∀ i, sel (listed.setIfInBounds ia true) m i = sel listed m i := fun i => by
    unfold sel
    by_cases h : i < m
    · simp only [Array.getD_eq_getD_getElem?, Array.getElem?_setIfInBounds_ne (show ia ≠ i by omega)]
    · have : Nat.blt i m = false := by
        cases hb : Nat.blt i m with
        | false => rfl
        | true => exact absurd (Nat.le_of_ble_eq_true hb) h
      rw [this]; rfl
  have hvl : ∀ i, sel listed m i = true → (Vl l i).1 ≠ da := fun i hi he => by
    have hli : i < l.length := by
      rw [hlen]
      unfold sel at hi
      rw [Bool.and_eq_true] at hi
      exact Nat.le_of_ble_eq_true hi.1
    have hmem : da ∈ ds := by
      rw [← hds, ← he]
      unfold Vl
      rw [List.getElem?_eq_getElem hli]
      exact List.mem_map.2 ⟨_, List.getElem_mem hli, rfl⟩
    have : ds.contains da = true := by simpa using hmem
    rw [this] at i4; cases i4
  have hput : ∀ (e : Env) v t, t ≠ da → put e da v t = e t := fun e v t ht => by
    unfold put
    have hbe : Nat.beq t da = false := by
      cases h : Nat.beq t da with
      | false => rfl
      | true => exact absurd (Nat.eq_of_beq_eq_true h) ht
    rw [hbe]; rfl
  refine oa_confsE l ds listed e m k (tail + 1) fuel nxt S [ia] ok hlen hds hk hf hS step (fun j hj h1 h2 h3 k' listed' e' hk' hc => ?_) fin
  have hj : j = ia := by simpa using hj
  subst hj
  refine ⟨_, hop, o_alloc_a hda fun b => ops_nil ⟨rfl, ?_⟩⟩
  subst hds
  have hne : ∀ i b, i ≠ j → (listed'.setIfInBounds j true).getD i b = listed'.getD i b := fun i b hi => by
    simp only [Array.getD_eq_getD_getElem?, Array.getElem?_setIfInBounds_ne (Ne.symm hi)]
  have hne0 : ∀ i b, i ≠ j → (listed.setIfInBounds j true).getD i b = listed.getD i b := fun i b hi => by
    simp only [Array.getD_eq_getD_getElem?, Array.getElem?_setIfInBounds_ne (Ne.symm hi)]
  have hsz : j < listed'.size := by rw [hc.size]; exact i2
  have hself : ∀ b, (listed'.setIfInBounds j true).getD j b = true := fun b => by simp [Array.getD_eq_getD_getElem?, hsz]
  have hsz0 : j < listed.size := by
    refine Classical.byContradiction fun h => ?_
    rw [Array.getD_eq_getD_getElem?, Array.getElem?_eq_none (by omega)] at i3
    cases i3
  have hself0 : ∀ b, (listed.setIfInBounds j true).getD j b = true := fun b => by simp [Array.getD_eq_getD_getElem?, hsz0]
  have hleft : left m (listed'.setIfInBounds j true) = left m listed' := by
    unfold left
    congr 1
    refine List.filter_congr fun i hi => ?_
    rw [hne i true (by have := List.mem_range.1 hi; omega)]
  have hselm : ∀ i, sel listed m i = true → i ≠ j := fun i hi => by
    unfold sel at hi
    rw [Bool.and_eq_true] at hi
    have : i < m := Nat.le_of_ble_eq_true hi.1
    omega
  rw [show k' + (tail + 1) = (k' + 1) + tail by omega]
  refine oa_confE l (listed.setIfInBounds j true) (put e da (.pointer (some ⟨b, 0, none⟩))) m tail nxt [] ok2 hlen (stepE l (l.map (·.1)) (listed.setIfInBounds j true) _ m S hlen rfl (by simp only [hsel]; exact hS) (step2 b)) (fun q hq => by simp at hq) (fun L hL => by subst hL; exact fin2 b) (k' + 1) (listed'.setIfInBounds j true) _ (by rw [hleft]; exact hk') ⟨by simpa using hc.size, fun i h => ?_, fun i g1 g2 => ?_, fun i hs hl d hd => ?_, fun i hs hl => ?_, fun t ht => ?_, fun i hs hl => ?_⟩
  · by_cases h' : i = j
    · rw [h']; exact hself _
    · rw [hne _ _ h']; rw [hne0 _ _ h'] at h; exact hc.old i h
  · by_cases h' : i = j
    · rw [h', hself, hself0]
    · rw [hne _ _ h', hne0 _ _ h']; exact hc.tail i g1 g2
  · rw [hsel] at hs
    rw [hne _ _ (hselm i hs)] at hl
    by_cases h' : d = j
    · rw [h']; exact hself _
    · rw [hne _ _ h']; exact hc.closed i hs hl d hd
  · rw [hsel] at hs
    rw [hne _ _ (hselm i hs)] at hl
    rw [hput _ _ _ (hvl i hs)]; exact hc.yes i hs hl
  · by_cases h' : t = da
    · rw [h']; unfold put; simp
    · rw [hput _ _ _ h', hput _ _ _ h']
      exact hc.no t fun i hi => ht i (by rw [hsel]; exact hi)
  · rw [hsel] at hs
    rw [hne _ _ (hselm i hs)] at hl
    rw [hput _ _ _ (hvl i hs), hput _ _ _ (hvl i hs)]
    exact hc.no2 i hs hl
end Go.Proofs.YtcelailgedndnaaGreatS
namespace Go.Proofs.YtcelailgedndnaaGreatS.R
open Go.Proofs.YtcelailgedndnaaGreatS
open Go.RowKit
set_option linter.unusedVariables false
set_option linter.unusedSimpArgs false
/-- The size that a pipe of numbers has. -/
def psize (z s : Int) : Int := wn z (wn s 1 12) (IntKind.i64.wrap (4 * wn s 1 12))
/-- The number that is picked of a list. -/
def pkv (l : List Int) (i : Nat) : Int := (l[((i : Int).tmod (l.length : Int)).toNat]?).getD 0
set_option linter.unusedVariables false
set_option linter.unusedSimpArgs false
attribute [local irreducible] Ops Ex Spec T V QO OA Rn OS
theorem ent_clL {H : HP} {b : Nat} {p : Bool} {l l' : List Value} {t : TypeId} {fr : Nat × Nat} {R : HP} [h : HasL H b p l t fr R] (hl : l = l') : Ent H (cl p b l' t fr * R) := by rw [h.eq, hl]; exact Ent.refl _
end Go.Proofs.YtcelailgedndnaaGreatS.R
namespace Go.Proofs.YtcelailgedndnaaGreatS.R
open Go.Proofs.YtcelailgedndnaaGreatS
open Go.RowKit
set_option linter.unusedVariables false
set_option linter.unusedSimpArgs false
/-- An operation of numbers: right, and small. -/
def rtb (o : Int × Int) : Bool := rt o && (decide (-9 ≤ o.2) && decide (o.2 ≤ 9))
theorem rtb_all {L : List (Int × Int)} (h : L.all rtb = true) : L.all rt = true := by
  rw [List.all_eq_true] at h ⊢
  intro o ho
  have := h o ho
  unfold rtb at this
  rw [Bool.and_eq_true] at this
  exact this.1
theorem rtb_bd {L : List (Int × Int)} (h : L.all rtb = true) : ∀ o ∈ L, (1 ≤ o.1 ∧ o.1 ≤ 6) ∧ -9 ≤ o.2 ∧ o.2 ≤ 9 := by
  intro o ho
  have := (List.all_eq_true.1 h) o ho
  unfold rtb rt at this
  rw [Bool.and_eq_true, Bool.and_eq_true] at this
  have h2 := of_decide_eq_true this.2.1
  have h3 := of_decide_eq_true this.2.2
  refine ⟨?_, h2, h3⟩
  have h1 := this.1
  split at h1
  · rename_i h; have : o.1 = 3 := by simpa using h
    omega
  · split at h1
    · rename_i h; have : o.1 = 6 := by simpa using h
      omega
    · simp at h1; omega
set_option linter.unusedVariables false
set_option linter.unusedSimpArgs false
attribute [local irreducible] Ops Ex Spec T V QO OA Rn OS
theorem pickI (H : HP) (a : Option Addr) (l : List Int) (cap i : Nat) [hr : RdC H a (ints .i64 l)] :
    Spec Tryz.prog 74 [.slice a l.length cap, .int .i64 (i : Int)] H (X := Unit) (fun x => .int .i64 (pkv l i)) (fun _ => True) (fun _ => H) := by
  refine spec_of Tryz.func74 rfl Tryz.ntmps74 rfl ?_
  by_cases h0 : l.length = 0
  · have d0 : ((l.length : Int) == 0) = true := by rw [h0]; rfl
    have e0 : pkv l i = 0 := by unfold pkv; rw [List.getElem?_eq_none (by omega)]; rfl
    rw [e0]
    repeat' (first | (refine rG 0 [0, 1] ?_; ((try (refine wK ?_; intro _)))) | (refine rG 1 [0, 1, 7] ?_; ((try (refine wK ?_; intro _)))) | (refine rG 2 [4] ?_; ((try (refine wK ?_; intro _)))) | refine wC ?_ | (refine ex_split rfl ?_ ?_ <;> intro hc))
    exact fin (.inr rfl) () (resl1 rfl (rv_tmp rfl)) trivial (Ent.refl _)
  · have d0 : ((l.length : Int) == 0) = false := beq_eq_false_iff_ne.2 (by omega)
    have hne : (l.length : Int) ≠ 0 := by omega
    have q0 : 0 ≤ (i : Int).tmod (l.length : Int) := Int.tmod_nonneg _ (by omega)
    have q1 : (i : Int).tmod (l.length : Int) < (l.length : Int) := Int.tmod_lt_of_pos _ (by omega)
    refine Ex.rd_some (a := a) (l := ints .i64 l) (by rw [ints_len]; exact Nat.pos_of_ne_zero h0) (fun ad ha => ?_)
    subst ha
    have hj : ((i : Int).tmod (l.length : Int)).toNat * 1 < l.length := by rw [Nat.mul_one]; exact (Int.toNat_lt q0).2 q1
    have hv := ints_get (k := .i64) hj
    have e0 : pkv l i = l[((i : Int).tmod (l.length : Int)).toNat * 1] := by unfold pkv; rw [List.getElem?_eq_getElem (by rw [Nat.mul_one] at hj; exact hj)]; simp
    rw [e0]
    repeat' (first | (refine rG 0 [0, 1] ?_; ((try (refine wK ?_; intro _)))) | (refine rG 1 [0, 1, 7] ?_; ((try (refine wK ?_; intro _)))) | (refine ex_regk (id := 3) (ts := [4]) ?_; ((try (first | refine o_mv (v := .slice _ _ _) (by decide) rfl ?_ | refine o_mv (by decide) rfl ?_)) <;> (try (first | refine o_mv (v := .int _ _) (by decide) rfl ?_ | refine o_mv (by decide) rfl ?_)) <;> (try (first | refine o_mv (v := .slice _ _ _) (by decide) rfl ?_ | refine o_mv (by decide) rfl ?_)) <;> (try (refine o_len (by decide) rfl rfl ?_)) <;> (try (refine o_rem (by decide) rfl rfl (by first | decide | assumption | omega) ?_)) <;> (try (refine o_index (by decide) rfl rfl (by first | decide | assumption | omega) (by first | decide | assumption | omega) ?_)) <;> (try (refine o_load_r (by decide) rfl hv ?_)) <;> (try (first | refine o_as (v := .int _ _) (by decide) rfl ?_ | refine o_as (by decide) rfl ?_)) <;> (try (refine ops_nilk ?_; intro _)) <;> (try ((first | refine keep_cons (v := .int _ _) rfl ?_ | refine keep_cons (v := _) rfl ?_))) <;> (try refine keep_nil ?_))) | refine wC ?_ | (refine ex_split rfl ?_ ?_ <;> intro hc))
    exact fin (.inr rfl) () (resl1 rfl (rv_tmp rfl)) trivial (Ent.refl _)
set_option maxHeartbeats 4000000 in
theorem pipeP (H : HP) (a b : Option Addr) (l ns : List Int) (ca cb : Nat) (size slide agg snk feed : Int) [ha : RdC H a (ints .i64 l)] [hb : RdC H b (ints .i64 ns)] :
    Spec Tryz.prog 43 [.agg #[.slice a l.length ca, .slice b ns.length cb, .int .i64 size, .int .i64 slide, .int .i64 agg, .int .i64 snk, .int .i64 feed]] H (X := Option Addr × Nat × List (Int × Int)) (fun x => .agg #[.slice x.1 x.2.2.length x.2.1, .int .i64 (psize size slide), .int .i64 (wn slide 1 12), .int .i64 (wn agg 1 4), .int .i64 (wn snk (-1) 1), .int .i64 (wn feed (-1) 1)]) (fun x => x.2.2.length ≤ 4 ∧ x.2.2.all rtb = true) (fun x => ow 159 2 x.1 x.2.2.length x.2.1 (x.2.2.flatMap oc) * H) := by
  have bs := wn_bd slide 1 12 (by omega)
  have e4 : IntKind.i64.wrap (4 * wn slide 1 12) = 4 * wn slide 1 12 := by rw [IntKind.wrap_i64]; omega
  refine spec_of Tryz.func43 rfl Tryz.ntmps43 rfl ?_
  repeat' (first | (refine rG 0 [1, 2] ?_; ((try ((refine o_box (by decide) (v := .agg (List.toArray _)) rfl rfl (fun b1 => ?_)))) <;> (try ((refine o_alloc_a (by decide) (fun b2 => ?_)))) <;> (try (refine wK ?_; intro _)))) | (refine rA 1 [1, 2, 3] 15 ?_; ((refine aF 0 ?_) <;> ((refine aF 3 ?_) <;> ((refine aF 6 ?_) <;> ((refine aF 9 ?_) <;> ((refine oa_confsA [(6, undef), (7, .int .i64 slide), (8, .int .i64 (wn slide 1 12)), (9, undef), (10, .int .i64 agg), (11, .int .i64 (wn agg 1 4)), (12, undef), (13, .int .i64 snk), (14, .int .i64 (wn snk (-1) 1)), (15, undef), (16, .int .i64 feed), (17, .int .i64 (wn feed (-1) 1))] [6, 7, 8, 9, 10, 11, 12, 13, 14, 15, 16, 17] _ _ 12 8 2 _ [1, 2, 12, 4, 5, 12, 7, 8, 12, 10, 11, 12] [1, 2, 4, 5, 7, 8, 10, 11] 13 3 33 _ _ _ _ _ (by kernel_rfl) (by kernel_rfl) (by kernel_rfl) rfl (by decide) rfl rfl rfl rfl (by kernel_rfl) (List.forall_mem_cons.2 ⟨?_, List.forall_mem_cons.2 ⟨?_, List.forall_mem_cons.2 ⟨?_, List.forall_mem_cons.2 ⟨?_, List.forall_mem_cons.2 ⟨?_, List.forall_mem_cons.2 ⟨?_, List.forall_mem_cons.2 ⟨?_, List.forall_mem_cons.2 ⟨?_, List.forall_mem_nil _⟩⟩⟩⟩⟩⟩⟩⟩) (fun b3 => List.forall_mem_cons.2 ⟨?_, List.forall_mem_cons.2 ⟨?_, List.forall_mem_cons.2 ⟨?_, List.forall_mem_cons.2 ⟨?_, List.forall_mem_cons.2 ⟨?_, List.forall_mem_cons.2 ⟨?_, List.forall_mem_cons.2 ⟨?_, List.forall_mem_cons.2 ⟨?_, List.forall_mem_nil _⟩⟩⟩⟩⟩⟩⟩⟩) ?_ (fun b3 => ?_); (intro e Φ hd ho k; refine ⟨_, rfl, ?_⟩; have hu0 := ho 6 (by kernel_rfl); clear hd ho; have he := (put_same hu0).symm; rw [he] at k; rw [he]; (first | refine o_load_s (v := .int _ _) (by decide) rfl rfl ?_ | refine o_load_s (by decide) rfl rfl ?_ | refine o_load_r (by decide) rfl (by assumption) ?_ | refine o_load_r (v := .int _ _) (by decide) rfl rfl ?_); refine ops_nil ?_; first | exact k _ (Ent.refl _) | exact k _ ent_take); (intro e Φ hd ho k; refine ⟨_, rfl, ?_⟩; have hu0 := hd 1 (by kernel_rfl) (by kernel_rfl); clear hd ho; have he := (put_same hu0).symm; rw [he] at k; rw [he]; (refine o_call (within _ _ _ (by decide) (by decide) (by decide) (by decide)) (by first | exact True.intro | (show _ < _; decide)) rfl rfl (fun _ _ => ?_)); refine ops_nil ?_; first | exact k _ (Ent.refl _) | exact k _ ent_take); (intro e Φ hd ho k; refine ⟨_, rfl, ?_⟩; have hu0 := ho 9 (by kernel_rfl); clear hd ho; have he := (put_same hu0).symm; rw [he] at k; rw [he]; (first | refine o_load_s (v := .int _ _) (by decide) rfl rfl ?_ | refine o_load_s (by decide) rfl rfl ?_ | refine o_load_r (by decide) rfl (by assumption) ?_ | refine o_load_r (v := .int _ _) (by decide) rfl rfl ?_); refine ops_nil ?_; first | exact k _ (Ent.refl _) | exact k _ ent_take); (intro e Φ hd ho k; refine ⟨_, rfl, ?_⟩; have hu0 := hd 4 (by kernel_rfl) (by kernel_rfl); clear hd ho; have he := (put_same hu0).symm; rw [he] at k; rw [he]; (refine o_call (within _ _ _ (by decide) (by decide) (by decide) (by decide)) (by first | exact True.intro | (show _ < _; decide)) rfl rfl (fun _ _ => ?_)); refine ops_nil ?_; first | exact k _ (Ent.refl _) | exact k _ ent_take); (intro e Φ hd ho k; refine ⟨_, rfl, ?_⟩; have hu0 := ho 12 (by kernel_rfl); clear hd ho; have he := (put_same hu0).symm; rw [he] at k; rw [he]; (first | refine o_load_s (v := .int _ _) (by decide) rfl rfl ?_ | refine o_load_s (by decide) rfl rfl ?_ | refine o_load_r (by decide) rfl (by assumption) ?_ | refine o_load_r (v := .int _ _) (by decide) rfl rfl ?_); refine ops_nil ?_; first | exact k _ (Ent.refl _) | exact k _ ent_take); (intro e Φ hd ho k; refine ⟨_, rfl, ?_⟩; have hu0 := hd 7 (by kernel_rfl) (by kernel_rfl); clear hd ho; have he := (put_same hu0).symm; rw [he] at k; rw [he]; (refine o_call (within _ _ _ (by decide) (by decide) (by decide) (by decide)) (by first | exact True.intro | (show _ < _; decide)) rfl rfl (fun _ _ => ?_)); refine ops_nil ?_; first | exact k _ (Ent.refl _) | exact k _ ent_take); (intro e Φ hd ho k; refine ⟨_, rfl, ?_⟩; have hu0 := ho 15 (by kernel_rfl); clear hd ho; have he := (put_same hu0).symm; rw [he] at k; rw [he]; (first | refine o_load_s (v := .int _ _) (by decide) rfl rfl ?_ | refine o_load_s (by decide) rfl rfl ?_ | refine o_load_r (by decide) rfl (by assumption) ?_ | refine o_load_r (v := .int _ _) (by decide) rfl rfl ?_); refine ops_nil ?_; first | exact k _ (Ent.refl _) | exact k _ ent_take); (intro e Φ hd ho k; refine ⟨_, rfl, ?_⟩; have hu0 := hd 10 (by kernel_rfl) (by kernel_rfl); clear hd ho; have he := (put_same hu0).symm; rw [he] at k; rw [he]; (refine o_call (within _ _ _ (by decide) (by decide) (by decide) (by decide)) (by first | exact True.intro | (show _ < _; decide)) rfl rfl (fun _ _ => ?_)); refine ops_nil ?_; first | exact k _ (Ent.refl _) | exact k _ ent_take); (intro e Φ hd ho k; refine ⟨_, rfl, ?_⟩; have hu0 := ho 6 (by kernel_rfl); clear hd ho; have he := (put_same hu0).symm; rw [he] at k; rw [he]; (first | refine o_load_s (v := .int _ _) (by decide) rfl rfl ?_ | refine o_load_s (by decide) rfl rfl ?_ | refine o_load_r (by decide) rfl (by assumption) ?_ | refine o_load_r (v := .int _ _) (by decide) rfl rfl ?_); refine ops_nil ?_; first | exact k _ (Ent.refl _) | exact k _ ent_take); (intro e Φ hd ho k; refine ⟨_, rfl, ?_⟩; have hu0 := hd 1 (by kernel_rfl) (by kernel_rfl); clear hd ho; have he := (put_same hu0).symm; rw [he] at k; rw [he]; (refine o_call (within _ _ _ (by decide) (by decide) (by decide) (by decide)) (by first | exact True.intro | (show _ < _; decide)) rfl rfl (fun _ _ => ?_)); refine ops_nil ?_; first | exact k _ (Ent.refl _) | exact k _ ent_take); (intro e Φ hd ho k; refine ⟨_, rfl, ?_⟩; have hu0 := ho 9 (by kernel_rfl); clear hd ho; have he := (put_same hu0).symm; rw [he] at k; rw [he]; (first | refine o_load_s (v := .int _ _) (by decide) rfl rfl ?_ | refine o_load_s (by decide) rfl rfl ?_ | refine o_load_r (by decide) rfl (by assumption) ?_ | refine o_load_r (v := .int _ _) (by decide) rfl rfl ?_); refine ops_nil ?_; first | exact k _ (Ent.refl _) | exact k _ ent_take); (intro e Φ hd ho k; refine ⟨_, rfl, ?_⟩; have hu0 := hd 4 (by kernel_rfl) (by kernel_rfl); clear hd ho; have he := (put_same hu0).symm; rw [he] at k; rw [he]; (refine o_call (within _ _ _ (by decide) (by decide) (by decide) (by decide)) (by first | exact True.intro | (show _ < _; decide)) rfl rfl (fun _ _ => ?_)); refine ops_nil ?_; first | exact k _ (Ent.refl _) | exact k _ ent_take); (intro e Φ hd ho k; refine ⟨_, rfl, ?_⟩; have hu0 := ho 12 (by kernel_rfl); clear hd ho; have he := (put_same hu0).symm; rw [he] at k; rw [he]; (first | refine o_load_s (v := .int _ _) (by decide) rfl rfl ?_ | refine o_load_s (by decide) rfl rfl ?_ | refine o_load_r (by decide) rfl (by assumption) ?_ | refine o_load_r (v := .int _ _) (by decide) rfl rfl ?_); refine ops_nil ?_; first | exact k _ (Ent.refl _) | exact k _ ent_take); (intro e Φ hd ho k; refine ⟨_, rfl, ?_⟩; have hu0 := hd 7 (by kernel_rfl) (by kernel_rfl); clear hd ho; have he := (put_same hu0).symm; rw [he] at k; rw [he]; (refine o_call (within _ _ _ (by decide) (by decide) (by decide) (by decide)) (by first | exact True.intro | (show _ < _; decide)) rfl rfl (fun _ _ => ?_)); refine ops_nil ?_; first | exact k _ (Ent.refl _) | exact k _ ent_take); (intro e Φ hd ho k; refine ⟨_, rfl, ?_⟩; have hu0 := ho 15 (by kernel_rfl); clear hd ho; have he := (put_same hu0).symm; rw [he] at k; rw [he]; (first | refine o_load_s (v := .int _ _) (by decide) rfl rfl ?_ | refine o_load_s (by decide) rfl rfl ?_ | refine o_load_r (by decide) rfl (by assumption) ?_ | refine o_load_r (v := .int _ _) (by decide) rfl rfl ?_); refine ops_nil ?_; first | exact k _ (Ent.refl _) | exact k _ ent_take); (intro e Φ hd ho k; refine ⟨_, rfl, ?_⟩; have hu0 := hd 10 (by kernel_rfl) (by kernel_rfl); clear hd ho; have he := (put_same hu0).symm; rw [he] at k; rw [he]; (refine o_call (within _ _ _ (by decide) (by decide) (by decide) (by decide)) (by first | exact True.intro | (show _ < _; decide)) rfl rfl (fun _ _ => ?_)); refine ops_nil ?_; first | exact k _ (Ent.refl _) | exact k _ ent_take); rotate_left; ((refine aO 12 ?_ <;> (refine wO ?_) <;> refine oa_nil ?_) <;> ((refine aO 14 ?_ <;> (refine wO ?_) <;> refine oa_nil ?_) <;> ((refine dK ?_; intro _)))); rotate_left; (refine oa_two 12 13 (by kernel_rfl) rfl rfl rfl rfl ?_ ?_ <;> first | (((refine o_build (by decide) rfl ?_) <;> (refine oa_nil ?_) <;> ((refine aO 13 ?_ <;> ((refine o_alloc_a (by decide) (fun b3 => ?_))) <;> refine oa_nil ?_) <;> ((refine aO 14 ?_ <;> (refine wO ?_) <;> refine oa_nil ?_) <;> ((refine dK ?_; intro _)))))) | ((((refine o_alloc_a (by decide) (fun b3 => ?_))) <;> (refine oa_nil ?_) <;> ((refine aO 12 ?_ <;> (refine wO ?_) <;> refine oa_nil ?_) <;> ((refine aO 14 ?_ <;> (refine wO ?_) <;> refine oa_nil ?_) <;> ((refine dK ?_; intro _)))))))))))))) | refine wC ?_ | (refine ex_split rfl ?_ ?_ <;> intro hc))
  all_goals
    refine Ex.ent ?_ (ent_clL (b := b3) (l' := [.slice none 0 0, .int .i64 0, .int .i64 (wn slide 1 12), .int .i64 (wn agg 1 4), .int .i64 (wn snk (-1) 1), .int .i64 (wn feed (-1) 1)]) rfl)
    repeat' (first | (refine rG 2 [1, 2, 3] ?_; ((try refine wO ?_) <;> (try (refine o_call (within _ _ _ (by rw [e4]; omega) (by omega) (by rw [e4]; omega) (by rw [e4]; omega)) (by first | exact True.intro | (show _ < _; decide)) rfl rfl (fun _ _ => ?_))) <;> (try (refine wK ?_; intro _)))) | (refine rG 3 [1, 2, 3, 4] ?_; ((try (refine wK ?_; intro _)))) | refine wC ?_ | (refine ex_split rfl ?_ ?_ <;> intro hc))
    refine Ex.ent ?_ (ent_clL (b := b3) (l' := [.slice none 0 0, .int .i64 (psize size slide), .int .i64 (wn slide 1 12), .int .i64 (wn agg 1 4), .int .i64 (wn snk (-1) 1), .int .i64 (wn feed (-1) 1)]) rfl)
    refine Ex.ent ?_ (Ent.ow_none 159 2 _)
    refine ex_loopE (fun mm e H' => ∃ g, ∃ i : Nat, ∃ L : List (Int × Int), ∃ oa, ∃ oc_ : Nat, e = put (put (put (put g 1 (.pointer (some ⟨b1, 0, none⟩))) 2 (.pointer (some ⟨b2, 0, none⟩))) 3 (.pointer (some ⟨b3, 0, none⟩))) 4 (.int .i64 (i : Int)) ∧
      H' = cl true b3 [.slice oa L.length oc_, .int .i64 (psize size slide), .int .i64 (wn slide 1 12), .int .i64 (wn agg 1 4), .int .i64 (wn snk (-1) 1), .int .i64 (wn feed (-1) 1)] 33 (0, 0) * (ow 159 2 oa L.length oc_ (L.flatMap oc) * (cl true b2 [.slice none 0 0, .int .i64 0, .int .i64 0, .int .i64 0, .int .i64 0, .int .i64 0] 33 (0, 0) * (cl true b1 [.slice a l.length ca, .slice b ns.length cb, .int .i64 size, .int .i64 slide, .int .i64 agg, .int .i64 snk, .int .i64 feed] 116 (0, 0) * H))) ∧ L.length = i ∧ L.all rtb = true ∧ L.length ≤ oc_ ∧ i ≤ 4 ∧ i ≤ l.length ∧ mm = 4 - i) (m := 4) ⟨_, 0, [], none, 0, rfl, rfl, rfl, rfl, by simp, by omega, by omega, rfl⟩ ?_ ?_
    · show Ent _ (cl true b3 [.slice none 0 0, _, _, _, _, _] 33 (0, 0) * (ow 159 2 none 0 0 [] * _))
      exact ent_take
    · rintro mm e H' ⟨g, i, L, oa, oc_, rfl, rfl, hL, hrt, hoc, hi4, hil, rfl⟩
      have ei : IntKind.i64.wrap ((i : Int) + 1) = ((i + 1 : Nat) : Int) := by rw [IntKind.wrap_i64]; omega
      by_cases hlt : i < l.length ∧ i < 4
      · obtain ⟨hlt, hlt4⟩ := hlt
        have hd : decide ((i : Int) < (l.length : Int)) = true := decide_eq_true (by omega)
        have hd4 : decide ((i : Int) < 4) = true := decide_eq_true (by omega)
        have h0 : 0 ≤ (i : Int) := by omega
        have h1 : (i : Int) < (l.length : Int) := by omega
        refine Ex.rd_some (a := a) (l := ints .i64 l) (by rw [ints_len]; omega) (fun ad ha2 => ?_)
        subst ha2
        have hv : (ints .i64 l)[(i : Int).toNat * 1]? = some (.int .i64 l[i]) := by rw [Int.toNat_natCast, Nat.mul_one]; exact ints_get hlt
        repeat' (first | (refine rG 4 [1, 2, 3, 4, 36] ?_; ((try refine wO ?_) <;> (repeat' (refine g_split rfl (by decide) rfl (by decide) ?_ ?_ <;> intro hc <;> (try refine wO ?_))) <;> (try (refine wK ?_; intro _)))) | refine wC ?_ | (refine ex_split rfl ?_ ?_ <;> intro hc))
        repeat' (first | (refine rA 6 [1, 2, 3, 4, 5] 14 ?_; ((refine aF 0 ?_) <;> ((refine aM 2 ?_) <;> ((refine aF 6 ?_) <;> ((refine aM 8 ?_) <;> ((refine oa_confsA [(39, undef), (40, .slice (some ad) l.length ca), (41, undef), (42, .pointer (some (ad.add ((i : Int).toNat * 1)))), (43, .int .i64 l[i]), (44, .int .i64 (wn l[i] 1 6)), (45, undef), (46, .slice b ns.length cb), (47, undef), (48, .int .i64 (pkv ns i)), (49, .int .i64 (wn (pkv ns i) (-5) 9))] [39, 40, 41, 42, 43, 44, 45, 46, 47, 48, 49] _ _ 11 7 2 _ [1, 3, 3, 4, 5, 11, 7, 9, 9, 10, 11] [1, 3, 4, 5, 7, 9, 10] 12 5 159 _ _ _ _ _ (by kernel_rfl) (by kernel_rfl) (by kernel_rfl) rfl (by decide) rfl rfl rfl rfl (by kernel_rfl) (List.forall_mem_cons.2 ⟨?_, List.forall_mem_cons.2 ⟨?_, List.forall_mem_cons.2 ⟨?_, List.forall_mem_cons.2 ⟨?_, List.forall_mem_cons.2 ⟨?_, List.forall_mem_cons.2 ⟨?_, List.forall_mem_cons.2 ⟨?_, List.forall_mem_nil _⟩⟩⟩⟩⟩⟩⟩) (fun b5 => List.forall_mem_cons.2 ⟨?_, List.forall_mem_cons.2 ⟨?_, List.forall_mem_cons.2 ⟨?_, List.forall_mem_cons.2 ⟨?_, List.forall_mem_cons.2 ⟨?_, List.forall_mem_cons.2 ⟨?_, List.forall_mem_cons.2 ⟨?_, List.forall_mem_nil _⟩⟩⟩⟩⟩⟩⟩) ?_ (fun b5 => ?_); (intro e Φ hd ho k; refine ⟨_, rfl, ?_⟩; have hu0 := ho 39 (by kernel_rfl); clear hd ho; have he := (put_same hu0).symm; rw [he] at k; rw [he]; (first | refine o_load_s (v := .slice _ _ _) (by decide) rfl rfl ?_ | refine o_load_s (by decide) rfl rfl ?_ | refine o_load_r (by decide) rfl (by assumption) ?_ | refine o_load_r (v := .slice _ _ _) (by decide) rfl rfl ?_); refine ops_nil ?_; first | exact k _ (Ent.refl _) | exact k _ ent_take); (intro e Φ hd ho k; refine ⟨_, rfl, ?_⟩; have hu0 := hd 1 (by kernel_rfl) (by kernel_rfl); have hu1 := ho 41 (by kernel_rfl); clear hd ho; have he := ((congrArg (fun z => put z _ _) (put_same hu0)).trans (put_same hu1)).symm; rw [he] at k; rw [he]; (refine o_index (by decide) rfl rfl (by first | decide | assumption | omega) (by first | decide | assumption | omega) ?_); refine ops_nil ?_; first | exact k _ (Ent.refl _) | exact k _ ent_take); (intro e Φ hd ho k; refine ⟨_, rfl, ?_⟩; have hu0 := hd 3 (by kernel_rfl) (by kernel_rfl); clear hd ho; have he := (put_same hu0).symm; rw [he] at k; rw [he]; (refine o_load_r (by decide) rfl hv ?_); refine ops_nil ?_; first | exact k _ (Ent.refl _) | exact k _ ent_take); (intro e Φ hd ho k; refine ⟨_, rfl, ?_⟩; have hu0 := hd 4 (by kernel_rfl) (by kernel_rfl); clear hd ho; have he := (put_same hu0).symm; rw [he] at k; rw [he]; (refine o_call (within _ _ _ (by decide) (by decide) (by decide) (by decide)) (by first | exact True.intro | (show _ < _; decide)) rfl rfl (fun _ _ => ?_)); refine ops_nil ?_; first | exact k _ (Ent.refl _) | exact k _ ent_take); (intro e Φ hd ho k; refine ⟨_, rfl, ?_⟩; have hu0 := ho 45 (by kernel_rfl); clear hd ho; have he := (put_same hu0).symm; rw [he] at k; rw [he]; (first | refine o_load_s (v := .slice _ _ _) (by decide) rfl rfl ?_ | refine o_load_s (by decide) rfl rfl ?_ | refine o_load_r (by decide) rfl (by assumption) ?_ | refine o_load_r (v := .slice _ _ _) (by decide) rfl rfl ?_); refine ops_nil ?_; first | exact k _ (Ent.refl _) | exact k _ ent_take); (intro e Φ hd ho k; refine ⟨_, rfl, ?_⟩; have hu0 := hd 7 (by kernel_rfl) (by kernel_rfl); have hu1 := ho 47 (by kernel_rfl); clear hd ho; have he := ((congrArg (fun z => put z _ _) (put_same hu0)).trans (put_same hu1)).symm; rw [he] at k; rw [he]; (refine o_callH (pickI _ _ ns _ i) (by first | exact True.intro | (show _ < _; decide)) rfl rfl (fun _ _ => ?_)); refine ops_nil ?_; first | exact k _ (Ent.refl _) | exact k _ ent_take); (intro e Φ hd ho k; refine ⟨_, rfl, ?_⟩; have hu0 := hd 9 (by kernel_rfl) (by kernel_rfl); clear hd ho; have he := (put_same hu0).symm; rw [he] at k; rw [he]; (refine o_call (within _ _ _ (by decide) (by decide) (by decide) (by decide)) (by first | exact True.intro | (show _ < _; decide)) rfl rfl (fun _ _ => ?_)); refine ops_nil ?_; first | exact k _ (Ent.refl _) | exact k _ ent_take); (intro e Φ hd ho k; refine ⟨_, rfl, ?_⟩; have hu0 := ho 39 (by kernel_rfl); clear hd ho; have he := (put_same hu0).symm; rw [he] at k; rw [he]; (first | refine o_load_s (v := .slice _ _ _) (by decide) rfl rfl ?_ | refine o_load_s (by decide) rfl rfl ?_ | refine o_load_r (by decide) rfl (by assumption) ?_ | refine o_load_r (v := .slice _ _ _) (by decide) rfl rfl ?_); refine ops_nil ?_; first | exact k _ (Ent.refl _) | exact k _ ent_take); (intro e Φ hd ho k; refine ⟨_, rfl, ?_⟩; have hu0 := hd 1 (by kernel_rfl) (by kernel_rfl); have hu1 := ho 41 (by kernel_rfl); clear hd ho; have he := ((congrArg (fun z => put z _ _) (put_same hu0)).trans (put_same hu1)).symm; rw [he] at k; rw [he]; (refine o_index (by decide) rfl rfl (by first | decide | assumption | omega) (by first | decide | assumption | omega) ?_); refine ops_nil ?_; first | exact k _ (Ent.refl _) | exact k _ ent_take); (intro e Φ hd ho k; refine ⟨_, rfl, ?_⟩; have hu0 := hd 3 (by kernel_rfl) (by kernel_rfl); clear hd ho; have he := (put_same hu0).symm; rw [he] at k; rw [he]; (refine o_load_r (by decide) rfl hv ?_); refine ops_nil ?_; first | exact k _ (Ent.refl _) | exact k _ ent_take); (intro e Φ hd ho k; refine ⟨_, rfl, ?_⟩; have hu0 := hd 4 (by kernel_rfl) (by kernel_rfl); clear hd ho; have he := (put_same hu0).symm; rw [he] at k; rw [he]; (refine o_call (within _ _ _ (by decide) (by decide) (by decide) (by decide)) (by first | exact True.intro | (show _ < _; decide)) rfl rfl (fun _ _ => ?_)); refine ops_nil ?_; first | exact k _ (Ent.refl _) | exact k _ ent_take); (intro e Φ hd ho k; refine ⟨_, rfl, ?_⟩; have hu0 := ho 45 (by kernel_rfl); clear hd ho; have he := (put_same hu0).symm; rw [he] at k; rw [he]; (first | refine o_load_s (v := .slice _ _ _) (by decide) rfl rfl ?_ | refine o_load_s (by decide) rfl rfl ?_ | refine o_load_r (by decide) rfl (by assumption) ?_ | refine o_load_r (v := .slice _ _ _) (by decide) rfl rfl ?_); refine ops_nil ?_; first | exact k _ (Ent.refl _) | exact k _ ent_take); (intro e Φ hd ho k; refine ⟨_, rfl, ?_⟩; have hu0 := hd 7 (by kernel_rfl) (by kernel_rfl); have hu1 := ho 47 (by kernel_rfl); clear hd ho; have he := ((congrArg (fun z => put z _ _) (put_same hu0)).trans (put_same hu1)).symm; rw [he] at k; rw [he]; (refine o_callH (pickI _ _ ns _ i) (by first | exact True.intro | (show _ < _; decide)) rfl rfl (fun _ _ => ?_)); refine ops_nil ?_; first | exact k _ (Ent.refl _) | exact k _ ent_take); (intro e Φ hd ho k; refine ⟨_, rfl, ?_⟩; have hu0 := hd 9 (by kernel_rfl) (by kernel_rfl); clear hd ho; have he := (put_same hu0).symm; rw [he] at k; rw [he]; (refine o_call (within _ _ _ (by decide) (by decide) (by decide) (by decide)) (by first | exact True.intro | (show _ < _; decide)) rfl rfl (fun _ _ => ?_)); refine ops_nil ?_; first | exact k _ (Ent.refl _) | exact k _ ent_take); rotate_left; ((refine aO 11 ?_ <;> (refine wO ?_) <;> refine oa_nil ?_) <;> ((refine aO 13 ?_ <;> (refine wO ?_) <;> refine oa_nil ?_) <;> ((refine dK ?_; intro _)))); rotate_left; (refine oa_two 11 12 (by kernel_rfl) rfl rfl rfl rfl ?_ ?_ <;> first | (((refine o_build (by decide) rfl ?_) <;> (refine oa_nil ?_) <;> ((refine aO 12 ?_ <;> ((refine o_alloc_a (by decide) (fun b5 => ?_))) <;> refine oa_nil ?_) <;> ((refine aO 13 ?_ <;> (refine wO ?_) <;> refine oa_nil ?_) <;> ((refine dK ?_; intro _)))))) | ((((refine o_alloc_a (by decide) (fun b5 => ?_))) <;> (refine oa_nil ?_) <;> ((refine aO 11 ?_ <;> (refine wO ?_) <;> refine oa_nil ?_) <;> ((refine aO 13 ?_ <;> (refine wO ?_) <;> refine oa_nil ?_) <;> ((refine dK ?_; intro _)))))))))))))) | refine ex_seq ?_ | refine ex_ret ?_ | refine ex_skip ?_ | refine ex_exit ?_ | refine ex_cond_t rfl ?_ | refine ex_cond_f rfl ?_ | refine ex_cond_t (congrArg Value.bool (by assumption)) ?_ | refine ex_cond_f (congrArg Value.bool (by assumption)) ?_ | (refine ex_split rfl ?_ ?_ <;> intro hc))
        all_goals
          have bK := wn_bd l[i] 1 6 (by omega)
          have bN := wn_bd (pkv ns i) (-5) 9 (by omega)
          refine Ex.ent ?_ (ent_clL (b := b5) (l' := oc (wn l[i] 1 6, wn (pkv ns i) (-5) 9)) rfl)
          generalize wn l[i] 1 6 = K at *
          generalize wn (pkv ns i) (-5) 9 = N at *
          by_cases k3 : K = 3
          · subst k3
            have bM := wn_bd N 1 4 (by omega)
            repeat' (first | (refine rG 7 [1, 2, 3, 4, 5, 52] ?_; ((try (refine wK ?_; intro _)))) | (refine rG 8 [1, 2, 3, 4, 5, 52, 53] ?_; ((try (refine wK ?_; intro _)))) | (refine rG 9 [1, 2, 3, 4, 5] ?_; ((try refine wO ?_) <;> (try (refine o_call (within _ _ _ (by decide) (by decide) (by decide) (by decide)) (by first | exact True.intro | (show _ < _; decide)) rfl rfl (fun _ _ => ?_))) <;> (try (refine wK ?_; intro _)))) | refine wC ?_ | (refine ex_split rfl ?_ ?_ <;> intro hc))
            refine Ex.ent ?_ (ent_clL (b := b5) (l' := oc (3, wn N 1 4)) rfl)
            repeat' (first | (refine rG 12 [1, 2, 3, 4] ?_; ((try refine wO ?_) <;> (try ((refine o_buildSlice (by decide) rfl rfl rfl (fun _ => ?_)))) <;> (try (refine o_appendT (cells := oc) (xs := L) (ys := [(3, wn N 1 4)]) oc_len oc_one (by decide) rfl rfl rfl rfl rfl (by simp only [List.length_cons, List.length_nil]; omega) (by simp only [maxLen, List.length_cons, List.length_nil]; omega) (fun a' cap' hc' => ?_))) <;> (try (refine wK ?_; intro _)))) | refine wC ?_ | (refine ex_split rfl ?_ ?_ <;> intro hc))
            refine Ex.ent ?_ (ent_clL (b := b3) (l' := [.slice a' (L ++ [(3, wn N 1 4)]).length cap', .int .i64 (psize size slide), .int .i64 (wn slide 1 12), .int .i64 (wn agg 1 4), .int .i64 (wn snk (-1) 1), .int .i64 (wn feed (-1) 1)]) rfl)
            repeat' (first | (refine rG 5 [1, 2, 3, 4] ?_; ((try (refine wK ?_; intro _)))) | refine wC ?_ | (refine ex_split rfl ?_ ?_ <;> intro hc))
            rw [ei]
            refine ⟨4 - (i + 1), by omega, _, ?_, _, i + 1, L ++ [(3, wn N 1 4)], a', cap', rfl, rfl, by rw [List.length_append, hL]; rfl, by rw [List.all_append, hrt, Bool.true_and]; simp [rtb, rt]; omega, hc', by omega, by omega, rfl⟩
            exact ent_take
          · have dk3 : (K == 3) = false := beq_eq_false_iff_ne.2 k3
            by_cases k6 : K = 6
            · subst k6
              have bM := wn_bd N 0 2 (by omega)
              repeat' (first | (refine rG 7 [1, 2, 3, 4, 5, 52] ?_; ((try (refine wK ?_; intro _)))) | (refine rG 8 [1, 2, 3, 4, 5, 52, 53] ?_; ((try (refine wK ?_; intro _)))) | (refine rG 10 [1, 2, 3, 4, 5, 59] ?_; ((try (refine wK ?_; intro _)))) | (refine rG 11 [1, 2, 3, 4, 5] ?_; ((try refine wO ?_) <;> (try (refine o_call (within _ _ _ (by decide) (by decide) (by decide) (by decide)) (by first | exact True.intro | (show _ < _; decide)) rfl rfl (fun _ _ => ?_))) <;> (try (refine wK ?_; intro _)))) | refine wC ?_ | (refine ex_split rfl ?_ ?_ <;> intro hc))
              refine Ex.ent ?_ (ent_clL (b := b5) (l' := oc (6, wn N 0 2)) rfl)
              repeat' (first | (refine rG 12 [1, 2, 3, 4] ?_; ((try refine wO ?_) <;> (try ((refine o_buildSlice (by decide) rfl rfl rfl (fun _ => ?_)))) <;> (try (refine o_appendT (cells := oc) (xs := L) (ys := [(6, wn N 0 2)]) oc_len oc_one (by decide) rfl rfl rfl rfl rfl (by simp only [List.length_cons, List.length_nil]; omega) (by simp only [maxLen, List.length_cons, List.length_nil]; omega) (fun a' cap' hc' => ?_))) <;> (try (refine wK ?_; intro _)))) | refine wC ?_ | (refine ex_split rfl ?_ ?_ <;> intro hc))
              refine Ex.ent ?_ (ent_clL (b := b3) (l' := [.slice a' (L ++ [(6, wn N 0 2)]).length cap', .int .i64 (psize size slide), .int .i64 (wn slide 1 12), .int .i64 (wn agg 1 4), .int .i64 (wn snk (-1) 1), .int .i64 (wn feed (-1) 1)]) rfl)
              repeat' (first | (refine rG 5 [1, 2, 3, 4] ?_; ((try (refine wK ?_; intro _)))) | refine wC ?_ | (refine ex_split rfl ?_ ?_ <;> intro hc))
              rw [ei]
              refine ⟨4 - (i + 1), by omega, _, ?_, _, i + 1, L ++ [(6, wn N 0 2)], a', cap', rfl, rfl, by rw [List.length_append, hL]; rfl, by rw [List.all_append, hrt, Bool.true_and]; simp [rtb, rt]; omega, hc', by omega, by omega, rfl⟩
              exact ent_take
            · have dk6 : (K == 6) = false := beq_eq_false_iff_ne.2 k6
              repeat' (first | (refine rG 7 [1, 2, 3, 4, 5, 52] ?_; ((try (refine wK ?_; intro _)))) | (refine rG 8 [1, 2, 3, 4, 5, 52, 53] ?_; ((try (refine wK ?_; intro _)))) | (refine rG 10 [1, 2, 3, 4, 5, 59] ?_; ((try (refine wK ?_; intro _)))) | refine wC ?_ | (refine ex_split rfl ?_ ?_ <;> intro hc))
              refine Ex.ent ?_ (ent_clL (b := b5) (l' := oc (K, N)) rfl)
              repeat' (first | (refine rG 12 [1, 2, 3, 4] ?_; ((try refine wO ?_) <;> (try ((refine o_buildSlice (by decide) rfl rfl rfl (fun _ => ?_)))) <;> (try (refine o_appendT (cells := oc) (xs := L) (ys := [(K, N)]) oc_len oc_one (by decide) rfl rfl rfl rfl rfl (by simp only [List.length_cons, List.length_nil]; omega) (by simp only [maxLen, List.length_cons, List.length_nil]; omega) (fun a' cap' hc' => ?_))) <;> (try (refine wK ?_; intro _)))) | refine wC ?_ | (refine ex_split rfl ?_ ?_ <;> intro hc))
              refine Ex.ent ?_ (ent_clL (b := b3) (l' := [.slice a' (L ++ [(K, N)]).length cap', .int .i64 (psize size slide), .int .i64 (wn slide 1 12), .int .i64 (wn agg 1 4), .int .i64 (wn snk (-1) 1), .int .i64 (wn feed (-1) 1)]) rfl)
              repeat' (first | (refine rG 5 [1, 2, 3, 4] ?_; ((try (refine wK ?_; intro _)))) | refine wC ?_ | (refine ex_split rfl ?_ ?_ <;> intro hc))
              rw [ei]
              refine ⟨4 - (i + 1), by omega, _, ?_, _, i + 1, L ++ [(K, N)], a', cap', rfl, rfl, by rw [List.length_append, hL]; rfl, by rw [List.all_append, hrt, Bool.true_and]; simp [rtb, rt, dk3, dk6]; omega, hc', by omega, by omega, rfl⟩
              exact ent_take
      · have hdx : decide ((i : Int) < (l.length : Int)) = false ∨ (decide ((i : Int) < (l.length : Int)) = true ∧ decide ((i : Int) < 4) = false) := by
          by_cases h : i < l.length
          · exact .inr ⟨decide_eq_true (by omega), decide_eq_false (by omega)⟩
          · exact .inl (decide_eq_false (by omega))
        rcases hdx with hd | ⟨hd, hd4⟩
        all_goals
          repeat' (first | (refine rG 4 [1, 2, 3, 4, 36] ?_; ((try refine wO ?_) <;> (repeat' (refine g_split rfl (by decide) rfl (by decide) ?_ ?_ <;> intro hc <;> (try refine wO ?_))) <;> (try (refine wK ?_; intro _)))) | (refine rG 13 [2] ?_; ((try (refine wK ?_; intro _)))) | refine wC ?_ | (refine ex_split rfl ?_ ?_ <;> intro hc))
          exact fin (.inr rfl) (oa, oc_, L) (resl1 rfl (rv_cell_a rfl rfl)) ⟨by show L.length ≤ 4; omega, hrt⟩ ent_take
end Go.Proofs.YtcelailgedndnaaGreatS.R
