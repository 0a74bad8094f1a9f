import Derived.Test.YthhgjnipmlodnaaTy
import Derived.Test.YthhgjnipmlodnaaTx
import Derived.Test.YthhgjnipmlodnaaTd
import Derived.Test.YthhgjnipmlodnaaTb
namespace Go.Proofs.YthhgjnipmlodnaaS
open Go.RowKit
set_option linter.unusedVariables false
set_option linter.unusedSimpArgs false
/-- A record: where it lies, its room, its bytes. -/
abbrev Rr : Type := Option Addr × Nat × List Int
def rc1 (r : Rr) : List Value := [.slice r.1 r.2.2.length r.2.1]
theorem rc1_len (r : Rr) : (rc1 r).length = 1 := rfl
theorem rc1_one (r : Rr) : ∀ v ∈ rc1 r, v.oneCell' = true := by intro v hv; simp [rc1] at hv; subst hv; rfl
def bys (L : List Rr) : List (List Int) := L.map (·.2.2)
abbrev bw (l : List Int) : List Value := l.flatMap (cw .u8)
/-- Records that are owned; records that are read alone. -/
def om : List Rr → HP
  | [] => 1
  | r :: L => ow 5 1 r.1 r.2.2.length r.2.1 (bw r.2.2) * om L
def rrs : List Rr → HP
  | [] => 1
  | r :: L => rs r.1 (bw r.2.2) * rrs L
class RA (H : HP) (L : List Rr) : Prop where all : ∀ r ∈ L, RdC H r.1 (bw r.2.2)
theorem ra_rrs0 : ∀ L : List Rr, ∀ r ∈ L, RdC (rrs L) r.1 (bw r.2.2)
  | [], r, h => by cases h
  | q :: L, r, h => by
    unfold rrs
    rcases List.mem_cons.1 h with rfl | h
    · infer_instance
    · have := ra_rrs0 L r h
      infer_instance
theorem ra_om0 : ∀ L : List Rr, ∀ r ∈ L, RdC (om L) r.1 (bw r.2.2)
  | [], r, h => by cases h
  | q :: L, r, h => by
    unfold om
    rcases List.mem_cons.1 h with rfl | h
    · infer_instance
    · have := ra_om0 L r h
      infer_instance
instance (priority := 1100) ra_nil (H) : RA H [] := ⟨fun r h => by cases h⟩
instance (priority := 1000) ra_rrs (L R) : RA (rrs L * R) L := ⟨fun r h => ⟨(ra_rrs0 L r h).rd.left R⟩⟩
instance (priority := 900) ra_rrs1 (L) : RA (rrs L) L := ⟨ra_rrs0 L⟩
instance (priority := 1000) ra_om (L R) : RA (om L * R) L := ⟨fun r h => ⟨(ra_om0 L r h).rd.left R⟩⟩
instance (priority := 900) ra_om1 (L) : RA (om L) L := ⟨ra_om0 L⟩
instance (priority := 500) ra_t (A H L) [h : RA H L] : RA (A * H) L := ⟨fun r hr => ⟨(h.all r hr).rd.right A⟩⟩
instance (priority := 800) ra_app (H L M) [h : RA H L] [k : RA H M] : RA H (L ++ M) := ⟨fun r hr => by
  rcases List.mem_append.1 hr with hr | hr
  · exact h.all r hr
  · exact k.all r hr⟩
instance (priority := 400) ra_take (H L) (n : Nat) [h : RA H L] : RA H (L.take n) := ⟨fun r hr => h.all r (List.mem_of_mem_take hr)⟩
instance (priority := 400) ra_drop (H L) (n : Nat) [h : RA H L] : RA H (L.drop n) := ⟨fun r hr => h.all r (List.mem_of_mem_drop hr)⟩
theorem ra_get {H : HP} {L : List Rr} [h : RA H L] (i : Nat) (hi : i < L.length) : RdC H L[i].1 (bw L[i].2.2) := h.all _ (List.getElem_mem hi)
theorem om_app : ∀ L M : List Rr, om (L ++ M) = om L * om M
  | [], M => (one_sep _).symm
  | r :: L, M => by show _ * om (L ++ M) = (_ * om L) * om M; rw [om_app L M, sep_assoc]
theorem rrs_app : ∀ L M : List Rr, rrs (L ++ M) = rrs L * rrs M
  | [], M => (one_sep _).symm
  | r :: L, M => by show _ * rrs (L ++ M) = (_ * rrs L) * rrs M; rw [rrs_app L M, sep_assoc]
theorem om_one (r : Rr) : om [r] = ow 5 1 r.1 r.2.2.length r.2.1 (bw r.2.2) := sep_one _
theorem fz_om : ∀ L : List Rr, Ent (om L) (rrs L)
  | [] => Ent.refl _
  | r :: L => ((fz_ow).frame _).trans ((fz_om L).frameL _)
theorem rrs_self : ∀ L : List Rr, rrs L = rrs L * rrs L
  | [] => (one_sep _).symm
  | r :: L => by
    show rs r.1 (bw r.2.2) * rrs L = (rs r.1 (bw r.2.2) * rrs L) * (rs r.1 (bw r.2.2) * rrs L)
    have h := rrs_self L
    have k := rs_self r.1 (bw r.2.2)
    calc rs r.1 (bw r.2.2) * rrs L = (rs r.1 (bw r.2.2) * rs r.1 (bw r.2.2)) * (rrs L * rrs L) := by rw [← h, ← k]
      _ = _ := by simp only [sep_assoc]; congr 1; rw [sep_left_comm]
theorem rrs_take (L : List Rr) (n : Nat) : Ent (rrs L) (rrs (L.take n)) := by
  have : rrs L = rrs (L.take n) * rrs (L.drop n) := by rw [← rrs_app, List.take_append_drop]
  rw [this]; exact Ent.dropR _ _
theorem bys_app (L M : List Rr) : bys (L ++ M) = bys L ++ bys M := List.map_append
theorem bys_len (L : List Rr) : (bys L).length = L.length := List.length_map _
theorem bys_get (L : List Rr) (i : Nat) (h : i < L.length) : (bys L)[i]'(by rw [bys_len]; exact h) = L[i].2.2 := List.getElem_map _
theorem bys_take (L : List Rr) (n : Nat) : bys (L.take n) = (bys L).take n := List.map_take
theorem rc1_get (L : List Rr) (i : Nat) (h : i < L.length) : (L.flatMap rc1)[(i : Int).toNat * 1]? = some (.slice L[i].1 L[i].2.2.length L[i].2.1) := by
  rw [Int.toNat_natCast]
  have e := flat_sub rc1_len L i h
  have := congrArg (fun l : List Value => l[0]?) e
  simp only [List.getElem?_take, List.getElem?_drop] at this
  simpa [rc1] using this
set_option linter.unusedVariables false
set_option linter.unusedSimpArgs false
attribute [local irreducible] Ops Ex Spec T V QO OA Rn OS
theorem clone (H : HP) (a : Option Addr) (xs : List Int) (cap : Nat) [hr : RdC H a (bw xs)] (hx : xs.length ≤ 1000000) : Spec Try.prog 23 [.slice a xs.length cap] H (X := Option Addr × Nat) (fun x => .slice x.1 xs.length x.2) (fun x => xs.length ≤ x.2) (fun x => ow 5 1 x.1 xs.length x.2 (bw xs) * H) := by
  refine spec_of Try.func23 rfl Try.ntmps23 rfl ?_
  cases a with
  | none =>
    by_cases hxs : xs = []
    · subst hxs
      repeat' (first | (refine ex_regk (id := 0) (ts := [0]) ?_; ((try (first | refine o_as (v := .slice _ _ _) (by decide) rfl ?_ | refine o_as (by decide) rfl ?_)) <;> (try (refine ops_nilk ?_; intro _)) <;> (try ((first | refine keep_cons (v := .slice _ _ _) rfl ?_ | refine keep_cons (v := _) rfl ?_))) <;> (try refine keep_nil ?_))) | (refine ex_regk (id := 1) (ts := [0, 4]) ?_; ((try (first | refine o_mv (v := .slice _ _ _) (by decide) rfl ?_ | refine o_mv (by decide) rfl ?_)) <;> (try (refine o_eqSN (by decide) rfl Try.underlying27 ?_)) <;> (try (refine ops_nilk ?_; intro _)) <;> (try ((first | refine keep_cons (v := .slice _ _ _) rfl ?_ | refine keep_cons (v := _) rfl ?_) <;> (first | refine keep_cons (v := .bool _) rfl ?_ | refine keep_cons (v := _) rfl ?_))) <;> (try refine keep_nil ?_))) | (refine ex_regk (id := 2) (ts := [2]) ?_; ((try (first | refine o_as (v := .slice _ _ _) (by decide) rfl ?_ | refine o_as (by decide) rfl ?_)) <;> (try (refine ops_nilk ?_; intro _)) <;> (try ((first | refine keep_cons (v := .slice _ _ _) rfl ?_ | refine keep_cons (v := _) rfl ?_))) <;> (try refine keep_nil ?_))) | refine ex_seq ?_ | refine ex_block ?_ | refine ex_ret ?_ | refine ex_skip ?_ | refine ex_exit ?_ | refine ex_cond_t rfl ?_ | refine ex_cond_f rfl ?_ | refine ex_cond_t (congrArg Value.bool (by assumption)) ?_ | refine ex_cond_f (congrArg Value.bool (by assumption)) ?_ | (refine ex_split rfl ?_ ?_ <;> intro hc))
      exact fin (.inr rfl) (none, 0) (resl1 rfl (rv_tmp rfl)) (Nat.le_refl _) (Ent.ow_none _ _ _)
    · refine Ex.rd_some (a := none) (l := bw xs) (by rw [flat_len cw_len]; have := List.length_pos_iff.2 hxs; omega) (fun ad ha => by cases ha)
  | some ad =>
    repeat' (first | (refine ex_regk (id := 0) (ts := [0]) ?_; ((try (first | refine o_as (v := .slice _ _ _) (by decide) rfl ?_ | refine o_as (by decide) rfl ?_)) <;> (try (refine ops_nilk ?_; intro _)) <;> (try ((first | refine keep_cons (v := .slice _ _ _) rfl ?_ | refine keep_cons (v := _) rfl ?_))) <;> (try refine keep_nil ?_))) | (refine ex_regk (id := 1) (ts := [0, 4]) ?_; ((try (first | refine o_mv (v := .slice _ _ _) (by decide) rfl ?_ | refine o_mv (by decide) rfl ?_)) <;> (try (refine o_eqSN (by decide) rfl Try.underlying27 ?_)) <;> (try (refine ops_nilk ?_; intro _)) <;> (try ((first | refine keep_cons (v := .slice _ _ _) rfl ?_ | refine keep_cons (v := _) rfl ?_) <;> (first | refine keep_cons (v := .bool _) rfl ?_ | refine keep_cons (v := _) rfl ?_))) <;> (try refine keep_nil ?_))) | (refine ex_regk (id := 2) (ts := [2]) ?_; ((try (first | refine o_as (v := .slice _ _ _) (by decide) rfl ?_ | refine o_as (by decide) rfl ?_)) <;> (try (refine ops_nilk ?_; intro _)) <;> (try ((first | refine keep_cons (v := .slice _ _ _) rfl ?_ | refine keep_cons (v := _) rfl ?_))) <;> (try refine keep_nil ?_))) | (refine ex_regk (id := 3) (ts := [2]) ?_; ((try ((refine o_buildSlice (by decide) rfl rfl rfl (fun _ => ?_)))) <;> (try (first | refine o_mv (v := .slice _ _ _) (by decide) rfl ?_ | refine o_mv (by decide) rfl ?_)) <;> (try (refine o_copyT (cells := cw .u8) (ys := xs) cw_len cw_one (by decide) rfl rfl rfl rfl rfl (by omega) (by simp only [maxLen]; omega) (fun a' cap' hc => ?_))) <;> (try (first | refine o_as (v := .slice _ _ _) (by decide) rfl ?_ | refine o_as (by decide) rfl ?_)) <;> (try (refine ops_nilk ?_; intro _)) <;> (try ((first | refine keep_cons (v := .slice _ _ _) rfl ?_ | refine keep_cons (v := _) rfl ?_))) <;> (try refine keep_nil ?_))) | refine ex_seq ?_ | refine ex_block ?_ | refine ex_ret ?_ | refine ex_skip ?_ | refine ex_exit ?_ | refine ex_cond_t rfl ?_ | refine ex_cond_f rfl ?_ | refine ex_cond_t (congrArg Value.bool (by assumption)) ?_ | refine ex_cond_f (congrArg Value.bool (by assumption)) ?_ | (refine ex_split rfl ?_ ?_ <;> intro hc))
    exact fin (.inr rfl) (_, _) (resl1 rfl (rv_tmp rfl)) hc (Ent.refl _)
set_option maxHeartbeats 4000000 in
theorem copied (H : HP) (a : Option Addr) (L : List Rr) (cap : Nat) [hr : RdC H a (L.flatMap rc1)] [ha : RA H L] (hL : L.length ≤ 100000) (hb : ∀ r ∈ L, r.2.2.length ≤ 1000000) :
    Spec Try.prog 21 [.slice a L.length cap] H (X := Option Addr × Nat × List Rr) (fun y => .slice y.1 y.2.2.length y.2.1) (fun y => bys y.2.2 = bys L ∧ y.2.2.length ≤ y.2.1 ∧ ∀ r ∈ y.2.2, r.2.2.length ≤ r.2.1) (fun y => ow 27 1 y.1 y.2.2.length y.2.1 (y.2.2.flatMap rc1) * (om y.2.2 * H)) := by
  refine spec_of Try.func21 rfl Try.ntmps21 rfl ?_
  repeat' (first | (refine ex_regk (id := 0) (ts := [0]) ?_; ((try (first | refine o_as (v := .slice _ _ _) (by decide) rfl ?_ | refine o_as (by decide) rfl ?_)) <;> (try (refine ops_nilk ?_; intro _)) <;> (try ((first | refine keep_cons (v := .slice _ _ _) rfl ?_ | refine keep_cons (v := _) rfl ?_))) <;> (try refine keep_nil ?_))) | (refine ex_regk (id := 1) (ts := [0, 3]) ?_; ((try (first | refine o_as (v := .slice _ _ _) (by decide) rfl ?_ | refine o_as (by decide) rfl ?_)) <;> (try (refine ops_nilk ?_; intro _)) <;> (try ((first | refine keep_cons (v := .slice _ _ _) rfl ?_ | refine keep_cons (v := _) rfl ?_) <;> (first | refine keep_cons (v := .slice _ _ _) rfl ?_ | refine keep_cons (v := _) rfl ?_))) <;> (try refine keep_nil ?_))) | (refine ex_regk (id := 2) (ts := [3, 6, 7, 8]) ?_; ((try (first | refine o_mv (v := .slice _ _ _) (by decide) rfl ?_ | refine o_mv (by decide) rfl ?_)) <;> (try (refine o_len (by decide) rfl rfl ?_)) <;> (try (first | refine o_mv (v := .int _ _) (by decide) rfl ?_ | refine o_mv (by decide) rfl ?_)) <;> (try (refine ops_nilk ?_; intro _)) <;> (try ((first | refine keep_cons (v := .slice _ _ _) rfl ?_ | refine keep_cons (v := _) rfl ?_) <;> (first | refine keep_cons (v := .slice _ _ _) rfl ?_ | refine keep_cons (v := _) rfl ?_) <;> (first | refine keep_cons (v := .int _ _) rfl ?_ | refine keep_cons (v := _) rfl ?_) <;> (first | refine keep_cons (v := .int _ _) rfl ?_ | refine keep_cons (v := _) rfl ?_))) <;> (try refine keep_nil ?_))) | refine ex_seq ?_ | refine ex_block ?_ | refine ex_ret ?_ | refine ex_skip ?_ | refine ex_exit ?_ | refine ex_cond_t rfl ?_ | refine ex_cond_f rfl ?_ | refine ex_cond_t (congrArg Value.bool (by assumption)) ?_ | refine ex_cond_f (congrArg Value.bool (by assumption)) ?_ | (refine ex_split rfl ?_ ?_ <;> intro hc))
  refine ex_loopE (fun mm e H' => ∃ G, ∃ j : Nat, ∃ M : List Rr, ∃ ma mc, e = put (put (put (put G 3 (.slice ma M.length mc)) 6 (.slice a L.length cap)) 7 (.int .i64 (L.length : Int))) 8 (.int .i64 (j : Int)) ∧ H' = ow 27 1 ma M.length mc (M.flatMap rc1) * (om M * H) ∧ j ≤ L.length ∧ mm = L.length - j ∧ bys M = bys (L.take j) ∧ M.length = j ∧ M.length ≤ mc ∧ (∀ r ∈ M, r.2.2.length ≤ r.2.1)) (m := L.length) ⟨_, 0, [], none, 0, rfl, rfl, by omega, by omega, rfl, rfl, Nat.le_refl _, fun r h => by cases h⟩ ?_ ?_
  · show Ent H (ow 27 1 none 0 0 [] * (1 * H))
    rw [one_sep]; exact Ent.ow_none _ _ _
  rintro mm e H' ⟨G, j, M, ma, mc, rfl, rfl, hj, rfl, hM, hMl, hmc, hMc⟩
  by_cases hlt : j < L.length
  · have d9 : decide ((j : Int) < (L.length : Int)) = true := decide_eq_true (by omega)
    have g0 : 0 ≤ (j : Int) := by omega
    have g1 : (j : Int) < (L.length : Int) := by omega
    have e17 : IntKind.i64.wrap ((j : Int) + 1) = ((j + 1 : Nat) : Int) := by rw [IntKind.wrap_i64]; omega
    refine Ex.rd_some (a := a) (l := L.flatMap rc1) (by rw [flat_len rc1_len]; omega) (fun ad hha => ?_)
    subst hha
    have hv := rc1_get L j hlt
    have hrj : RdC H L[j].1 (bw L[j].2.2) := ra_get j hlt
    have htk : L.take (j + 1) = L.take j ++ [L[j]] := List.take_succ_eq_append_getElem hlt
    have hlj := hb _ (List.getElem_mem hlt)
    generalize L[j] = r at *
    obtain ⟨ra, rc, rb⟩ := r
    have hlj : rb.length ≤ 1000000 := hlj
    repeat' (first | (refine ex_regk (id := 3) (ts := [3, 6, 7, 8, 9]) ?_; ((try ((refine o_int (by decide) rfl rfl rfl ?_; rw [d9]))) <;> (try (refine ops_nilk ?_; intro _)) <;> (try ((first | refine keep_cons (v := .slice _ _ _) rfl ?_ | refine keep_cons (v := _) rfl ?_) <;> (first | refine keep_cons (v := .slice _ _ _) rfl ?_ | refine keep_cons (v := _) rfl ?_) <;> (first | refine keep_cons (v := .int _ _) rfl ?_ | refine keep_cons (v := _) rfl ?_) <;> (first | refine keep_cons (v := .int _ _) rfl ?_ | refine keep_cons (v := _) rfl ?_) <;> (first | refine keep_cons (v := _) rfl ?_))) <;> (try refine keep_nil ?_))) | (refine ex_regk (id := 4) (ts := [3, 5, 6, 7, 8]) ?_; ((try (refine o_index (by decide) rfl rfl (by first | decide | assumption | omega) (by first | decide | assumption | omega) ?_)) <;> (try (refine o_load_r (by decide) rfl hv ?_)) <;> (try (first | refine o_as (v := .slice _ _ _) (by decide) rfl ?_ | refine o_as (by decide) rfl ?_)) <;> (try (refine ops_nilk ?_; intro _)) <;> (try ((first | refine keep_cons (v := .slice _ _ _) rfl ?_ | refine keep_cons (v := _) rfl ?_) <;> (first | refine keep_cons (v := .slice _ _ _) rfl ?_ | refine keep_cons (v := _) rfl ?_) <;> (first | refine keep_cons (v := .slice _ _ _) rfl ?_ | refine keep_cons (v := _) rfl ?_) <;> (first | refine keep_cons (v := .int _ _) rfl ?_ | refine keep_cons (v := _) rfl ?_) <;> (first | refine keep_cons (v := .int _ _) rfl ?_ | refine keep_cons (v := _) rfl ?_))) <;> (try refine keep_nil ?_))) | (refine ex_regk (id := 5) (ts := [3, 6, 7, 8]) ?_; ((try (first | refine o_mv (v := .slice _ _ _) (by decide) rfl ?_ | refine o_mv (by decide) rfl ?_)) <;> (try (first | refine o_mv (v := .slice _ _ _) (by decide) rfl ?_ | refine o_mv (by decide) rfl ?_)) <;> (try ((refine o_callH (clone _ ra rb rc hlj) (by first | exact True.intro | (show _ < _; decide)) rfl rfl (fun y hy => ?_); obtain ⟨ya, yc⟩ := y))) <;> (try ((refine o_buildSlice (cells := [((ya, yc, rb) : Rr)].flatMap rc1) (by decide) rfl rfl rfl (fun b15 => ?_)))) <;> (try (refine o_appendT (cells := rc1) (xs := M) (ys := [((ya, yc, rb) : Rr)]) rc1_len rc1_one (by decide) rfl rfl rfl rfl rfl (by simp only [List.length_singleton]; omega) (by simp only [maxLen, List.length_singleton]; omega) (fun a16 c16 hc16 => ?_))) <;> (try (first | refine o_as (v := .slice _ _ _) (by decide) rfl ?_ | refine o_as (by decide) rfl ?_)) <;> (try (refine ops_nilk ?_; intro _)) <;> (try ((first | refine keep_cons (v := .slice _ _ _) rfl ?_ | refine keep_cons (v := _) rfl ?_) <;> (first | refine keep_cons (v := .slice _ _ _) rfl ?_ | refine keep_cons (v := _) rfl ?_) <;> (first | refine keep_cons (v := .int _ _) rfl ?_ | refine keep_cons (v := _) rfl ?_) <;> (first | refine keep_cons (v := .int _ _) rfl ?_ | refine keep_cons (v := _) rfl ?_))) <;> (try refine keep_nil ?_))) | (refine ex_regk (id := 6) (ts := [3, 6, 7, 8]) ?_; ((try (refine o_int (by decide) rfl rfl rfl ?_)) <;> (try (first | refine o_mv (v := .int _ _) (by decide) rfl ?_ | refine o_mv (by decide) rfl ?_)) <;> (try (refine ops_nilk ?_; intro _)) <;> (try ((first | refine keep_cons (v := .slice _ _ _) rfl ?_ | refine keep_cons (v := _) rfl ?_) <;> (first | refine keep_cons (v := .slice _ _ _) rfl ?_ | refine keep_cons (v := _) rfl ?_) <;> (first | refine keep_cons (v := .int _ _) rfl ?_ | refine keep_cons (v := _) rfl ?_) <;> (first | refine keep_cons (v := .int _ _) rfl ?_ | refine keep_cons (v := _) rfl ?_))) <;> (try refine keep_nil ?_))) | refine ex_seq ?_ | refine ex_block ?_ | refine ex_ret ?_ | refine ex_skip ?_ | refine ex_exit ?_ | refine ex_cond_t rfl ?_ | refine ex_cond_f rfl ?_ | refine ex_cond_t (congrArg Value.bool (by assumption)) ?_ | refine ex_cond_f (congrArg Value.bool (by assumption)) ?_ | (refine ex_split rfl ?_ ?_ <;> intro hc))
    rw [e17]
    refine ⟨L.length - (j + 1), by omega, _, ?_, _, j + 1, M ++ [(ya, yc, rb)], a16, c16, rfl, rfl, by omega, rfl, ?_, by rw [List.length_append]; simp; omega, hc16, fun q hq => ?_⟩
    · rw [om_app, om_one, sep_assoc]; exact ent_take
    · rw [htk, bys_app, bys_app, hM]; rfl
    · rcases List.mem_append.1 hq with hq | hq
      · exact hMc q hq
      · obtain rfl : q = (ya, yc, rb) := by simpa using hq
        exact hy
  · have hj2 : j = L.length := by omega
    subst hj2
    have d9 : decide ((L.length : Int) < (L.length : Int)) = false := decide_eq_false (by omega)
    rw [List.take_length] at hM
    repeat' (first | (refine ex_regk (id := 3) (ts := [3, 6, 7, 8, 9]) ?_; ((try ((refine o_int (by decide) rfl rfl rfl ?_; rw [d9]))) <;> (try (refine ops_nilk ?_; intro _)) <;> (try ((first | refine keep_cons (v := .slice _ _ _) rfl ?_ | refine keep_cons (v := _) rfl ?_) <;> (first | refine keep_cons (v := .slice _ _ _) rfl ?_ | refine keep_cons (v := _) rfl ?_) <;> (first | refine keep_cons (v := .int _ _) rfl ?_ | refine keep_cons (v := _) rfl ?_) <;> (first | refine keep_cons (v := .int _ _) rfl ?_ | refine keep_cons (v := _) rfl ?_) <;> (first | refine keep_cons (v := _) rfl ?_))) <;> (try refine keep_nil ?_))) | (refine ex_regk (id := 7) (ts := [2]) ?_; ((try (first | refine o_mv (v := .slice _ _ _) (by decide) rfl ?_ | refine o_mv (by decide) rfl ?_)) <;> (try (first | refine o_as (v := .slice _ _ _) (by decide) rfl ?_ | refine o_as (by decide) rfl ?_)) <;> (try (refine ops_nilk ?_; intro _)) <;> (try ((first | refine keep_cons (v := .slice _ _ _) rfl ?_ | refine keep_cons (v := _) rfl ?_))) <;> (try refine keep_nil ?_))) | refine ex_seq ?_ | refine ex_block ?_ | refine ex_ret ?_ | refine ex_skip ?_ | refine ex_exit ?_ | refine ex_cond_t rfl ?_ | refine ex_cond_f rfl ?_ | refine ex_cond_t (congrArg Value.bool (by assumption)) ?_ | refine ex_cond_f (congrArg Value.bool (by assumption)) ?_ | (refine ex_split rfl ?_ ?_ <;> intro hc))
    exact fin (.inr rfl) (ma, mc, M) (resl1 rfl (rv_tmp rfl)) ⟨hM, hmc, hMc⟩ (Ent.refl _)
end Go.Proofs.YthhgjnipmlodnaaS
