/- Contracts of the functions that the statement reaches: the walk of the program by the small logic, part 4: R1, R2, LH, N2, R3, E1, E2, E3, C2. No condition beyond what each theorem states. -/
import Derived.Test.YtcelailgedndnaaGreatZ3
namespace Go.Proofs.YtcelailgedndnaaGreatS.R
open Go.Proofs.YtcelailgedndnaaGreatS
open Go.RowKit
set_option linter.unusedVariables false
set_option linter.unusedSimpArgs false
def rt (o : Int × Int) : Bool := if o.1 == 3 then decide (o.2 ≥ 1) && decide (o.2 ≤ 256) else if o.1 == 6 then decide (o.2 ≥ 0) && decide (o.2 ≤ 255) else decide (o.1 ≥ 1) && decide (o.1 ≤ 5)
def oc (o : Int × Int) : List Value := [.int .i64 o.1, .int .i64 o.2]
theorem oc_len (o : Int × Int) : (oc o).length = 2 := rfl
/-- A sink's numbers, as the statements draw them. -/
abbrev Kk : Type := Int × Int × Int × Int × Int
def kc (k : Kk) : List Value := [.int .i64 k.1, .int .i64 k.2.1, .int .i64 k.2.2.1, .int .i64 k.2.2.2.1, .int .i64 k.2.2.2.2]
theorem kc_len (k : Kk) : (kc k).length = 5 := rfl
theorem sc_len (s : Sk) : (sc s).length = 5 := rfl
theorem sc_one (s : Sk) : ∀ v ∈ sc s, v.oneCell' = true := by intro v hv; simp [sc] at hv; rcases hv with rfl | rfl | rfl | rfl | rfl <;> rfl
def B (x : Int) : BitVec 64 := BitVec.ofNat 64 x.toNat
theorem U_B (x : Int) (h0 : 0 ≤ x) (h1 : x < 18446744073709551616) : U (B x) = x := by unfold U B; rw [BitVec.toNat_ofNat]; omega
theorem conv_B (x : Int) (h0 : 0 ≤ x) (h1 : x < 18446744073709551616) : IntKind.u64.wrap x = U (B x) := by rw [U_B x h0 h1, IntKind.wrap_u64]; omega
def sk (k : Kk) : Sk := (B (wn k.1 1 255), B (wn k.2.1 0 255), wn k.2.2.1 2 4, wn k.2.2.2.1 1 4, wn k.2.2.2.2 1 6)
/-- May a sink be? -/
def rs2 (s : Sk) : Bool := decide (s.2.2.1 ≥ 2) && decide (s.2.2.1 ≤ 8) && (decide (s.2.2.2.1 ≥ 1) && decide (s.2.2.2.1 ≤ 4)) && decide (s.2.2.2.2 ≥ 1) && decide (s.2.2.2.2 ≤ 100)
def rs1 (s : Sk) : Bool := !decide (s.1 = 0) && bl (s.1 ||| s.2.1) 255#64 && rs2 s
def wr (size slide : Int) : Bool := decide (slide ≥ 1) && decide (size ≥ slide) && decide (size ≤ 1048576) && decide (IntKind.i64.wrap ((IntKind.i64.wrap (IntKind.i64.wrap (size + slide) - 1)).tdiv slide) ≤ 8)
def plc (x : Int) : Bool := (x == -1) || (decide (x ≥ 0) && decide (x < 4))
def inF (g : Sk → BitVec 64) (id at_ : Int) (l : List Sk) : Bool := if at_ == -1 then true else if decide (at_ ≥ 0) then ((l[at_.toNat]?).map (fun s => hs (g s) id)).getD false else false
set_option linter.unusedVariables false
set_option linter.unusedSimpArgs false
attribute [local irreducible] Ops Ex Spec T V QO OA Rn
theorem right1 (o : Int × Int) : Spec Tryz.prog 109 [.agg (oc o).toArray] 1 (X := Unit) (fun _ => .bool (rt o)) (fun _ => True) (fun _ => 1) := by
  obtain ⟨k, n⟩ := o
  refine spec_of Tryz.func109 rfl Tryz.ntmps109 rfl ?_
  repeat' (first | (refine rG 0 [1] ?_; ((try ((refine o_box (by decide) (v := .agg (List.toArray _)) rfl rfl (fun _ => ?_)))) <;> (try (refine wK ?_; intro _)))) | (refine rG 1 [1, 4] ?_; ((try (refine wK ?_; intro _)))) | (refine rG 2 [1, 4, 5] ?_; ((try (refine wK ?_; intro _)))) | (refine rG 3 [1, 4, 5] ?_; ((try (refine wK ?_; intro _)))) | (refine rG 4 [1, 4, 5] ?_; ((try (refine wK ?_; intro _)))) | (refine rG 5 [1, 4, 5] ?_; ((try (refine wK ?_; intro _)))) | (refine rG 6 [2] ?_; ((try (refine wK ?_; intro _)))) | (refine rG 7 [1, 4, 10] ?_; ((try (refine wK ?_; intro _)))) | (refine rG 8 [2] ?_; ((try refine wO ?_) <;> (repeat' (refine g_split rfl (by decide) rfl (by decide) ?_ ?_ <;> intro hc <;> (try refine wO ?_))) <;> (try (refine wK ?_; intro _)))) | (refine rG 9 [1, 20] ?_; ((try (refine wK ?_; intro _)))) | (refine rG 10 [2] ?_; ((try refine wO ?_) <;> (repeat' (refine g_split rfl (by decide) rfl (by decide) ?_ ?_ <;> intro hc <;> (try refine wO ?_))) <;> (try (refine wK ?_; intro _)))) | (refine rG 11 [2] ?_; ((try (refine wK ?_; intro _)))) | refine wC ?_ | (refine ex_split rfl ?_ ?_ <;> intro hc))
  all_goals exact fin (.inr rfl) () (resl1 rfl (rv_tmp (by show Value.bool _ = Value.bool _; congr 1; simp_all [rt]; try omega))) trivial (Ent.toOne _)
theorem right (H : HP) (a : Option Addr) (l : List (Int × Int)) (cap : Nat) {cs : List Value} [hr : RdC H a cs] (hcs : cs = l.flatMap oc) (hl : l.length ≤ 1000000) : Spec Tryz.prog 81 [.slice a l.length cap] H (X := Unit) (fun _ => .bool (decide (l.length ≤ 6) && l.all rt)) (fun _ => True) (fun _ => H) := by
  subst hcs
  refine spec_of Tryz.func81 rfl Tryz.ntmps81 rfl ?_
  by_cases h6 : l.length ≤ 6
  · have hg : decide ((l.length : Int) > 6) = false := decide_eq_false (by omega)
    have h6d : decide (l.length ≤ 6) = true := decide_eq_true h6
    rw [h6d, Bool.true_and]
    repeat' (first | (refine rG 0 [0] ?_; ((try (refine wK ?_; intro _)))) | (refine rG 1 [0, 7] ?_; ((try (refine wK ?_; intro _)))) | (refine rG 3 [8, 9, 10] ?_; ((try (refine wK ?_; intro _)))) | refine wC ?_ | (refine ex_split rfl ?_ ?_ <;> intro hc))
    refine ex_loopE (fun mm e H' => ∃ g, ∃ i : Nat, e = put (put (put g 8 (.slice a l.length cap)) 9 (.int .i64 (l.length : Int))) 10 (.int .i64 (i : Int)) ∧ H' = H ∧ i ≤ l.length ∧ mm = l.length - i ∧ (l.drop i).all rt = l.all rt) (m := l.length) ⟨_, 0, rfl, rfl, by omega, by omega, rfl⟩ ?_ ?_
    · exact ent_take
    · rintro mm e H' ⟨g, i, rfl, rfl, hi, rfl, hs⟩
      by_cases hlt : i < l.length
      · have hd : decide ((i : Int) < (l.length : Int)) = true := by simp; omega
        have h0 : 0 ≤ (i : Int) := by omega
        have h1 : (i : Int) < (l.length : Int) := by omega
        refine Ex.rd_some (a := a) (l := l.flatMap oc) (by rw [flat_len oc_len]; omega) (fun ad ha => ?_)
        subst ha
        have hv : sub (l.flatMap oc) ((i : Int).toNat * 2) 2 = some (oc l[i]) := by rw [Int.toNat_natCast]; exact sub_flat oc_len l i hlt
        have ei : IntKind.i64.wrap ((i : Int) + 1) = ((i + 1 : Nat) : Int) := by rw [IntKind.wrap_i64]; omega
        rw [List.drop_eq_getElem_cons hlt, List.all_cons] at hs
        cases hap : rt l[i] with
        | true =>
          rw [hap, Bool.true_and] at hs
          have hn : (!rt l[i]) = false := by rw [hap]; rfl
          repeat' (first | (refine rG 4 [8, 9, 10, 11] ?_; ((try (refine wK ?_; intro _)))) | (refine rG 5 [4, 8, 9, 10] ?_; ((try refine wO ?_) <;> (try ((refine o_alloc_a (by decide) (fun _ => ?_)))) <;> (try (refine wK ?_; intro _)))) | (refine rG 6 [8, 9, 10, 16] ?_; ((try refine wO ?_) <;> (try ((refine o_call (right1 l[i]) (by first | exact True.intro | (show _ < _; decide)) rfl rfl (fun _ _ => ?_)))) <;> (try (refine wK ?_; intro _)))) | (refine rG 8 [8, 9, 10] ?_; ((try (refine wK ?_; intro _)))) | refine wC ?_ | (refine ex_split rfl ?_ ?_ <;> intro hc))
          rw [ei]
          refine ⟨l.length - (i + 1), by omega, _, ?_, _, i + 1, rfl, rfl, by omega, rfl, hs⟩
          exact ent_take
        | false =>
          rw [hap, Bool.false_and] at hs
          have hn : (!rt l[i]) = true := by rw [hap]; rfl
          repeat' (first | (refine rG 4 [8, 9, 10, 11] ?_; ((try (refine wK ?_; intro _)))) | (refine rG 5 [4, 8, 9, 10] ?_; ((try refine wO ?_) <;> (try ((refine o_alloc_a (by decide) (fun _ => ?_)))) <;> (try (refine wK ?_; intro _)))) | (refine rG 6 [8, 9, 10, 16] ?_; ((try refine wO ?_) <;> (try ((refine o_call (right1 l[i]) (by first | exact True.intro | (show _ < _; decide)) rfl rfl (fun _ _ => ?_)))) <;> (try (refine wK ?_; intro _)))) | (refine rG 7 [2] ?_; ((try (refine wK ?_; intro _)))) | refine wC ?_ | (refine ex_split rfl ?_ ?_ <;> intro hc))
          rw [← hs]
          exact fin (.inr rfl) () (resl1 rfl (rv_tmp rfl)) trivial ent_take
      · have hil : i = l.length := by omega
        subst hil
        have hd : decide ((l.length : Int) < (l.length : Int)) = false := by simp
        rw [List.drop_length, List.all_nil] at hs
        repeat' (first | (refine rG 4 [8, 9, 10, 11] ?_; ((try (refine wK ?_; intro _)))) | (refine rG 9 [2] ?_; ((try (refine wK ?_; intro _)))) | refine wC ?_ | (refine ex_split rfl ?_ ?_ <;> intro hc))
        rw [← hs]
        exact fin (.inr rfl) () (resl1 rfl (rv_tmp rfl)) trivial ent_take
  · have hg : decide ((l.length : Int) > 6) = true := decide_eq_true (by omega)
    have h6d : decide (l.length ≤ 6) = false := decide_eq_false h6
    rw [h6d, Bool.false_and]
    repeat' (first | (refine rG 0 [0] ?_; ((try (refine wK ?_; intro _)))) | (refine rG 1 [0, 7] ?_; ((try (refine wK ?_; intro _)))) | (refine rG 2 [2] ?_; ((try (refine wK ?_; intro _)))) | refine wC ?_ | (refine ex_split rfl ?_ ?_ <;> intro hc))
    exact fin (.inr rfl) () (resl1 rfl (rv_tmp rfl)) trivial ent_take
set_option maxHeartbeats 4000000 in
theorem sinks (H : HP) (a : Option Addr) (l : List Kk) (m cap : Nat) {cs : List Value} [hr : RdC H a cs] (hm : m = l.length) (hcs : cs = l.flatMap kc) (hl : l.length ≤ 9223372036854775807) :
    Spec Tryz.prog 35 [.slice a m cap] H (X := Option Addr × Nat) (fun y => .slice y.1 ((l.take 2).map sk).length y.2) (fun _ => True) (fun y => ow 74 5 y.1 ((l.take 2).map sk).length y.2 (((l.take 2).map sk).flatMap sc) * H) := by
  subst hm; subst hcs
  refine spec_of Tryz.func35 rfl Tryz.ntmps35 rfl ?_
  repeat' (first | (refine rG 0 [0] ?_; ((try (refine wK ?_; intro _)))) | (refine rG 1 [0, 3] ?_; ((try (refine wK ?_; intro _)))) | (refine rG 2 [0, 3, 4] ?_; ((try (refine wK ?_; intro _)))) | refine wC ?_ | (refine ex_split rfl ?_ ?_ <;> intro hc))
  refine Ex.ent ?_ (Ent.ow_none 74 5 _)
  refine ex_loopE (fun mm e H' => ∃ g, ∃ i : Nat, ∃ a3, ∃ c3, e = put (put (put g 0 (.slice a l.length cap)) 3 (.slice a3 ((l.take i).map sk).length c3)) 4 (.int .i64 (i : Int)) ∧ H' = ow 74 5 a3 ((l.take i).map sk).length c3 (((l.take i).map sk).flatMap sc) * H ∧ i ≤ l.length ∧ i ≤ 2 ∧ mm = l.length - i) (m := l.length) ⟨_, 0, none, 0, rfl, rfl, by omega, by omega, by omega⟩ ?_ ?_
  · exact Ent.ofEq rfl
  · rintro mm e H' ⟨g, i, a3, c3, rfl, rfl, hi, hi2, rfl⟩
    have ei : IntKind.i64.wrap ((i : Int) + 1) = ((i + 1 : Nat) : Int) := by rw [IntKind.wrap_i64]; omega
    by_cases hlt : i < l.length
    · have hd : decide ((i : Int) < (l.length : Int)) = true := by simp; omega
      by_cases hlt2 : i < 2
      · have hd2 : decide ((i : Int) < 2) = true := by simp; omega
        have h0 : 0 ≤ (i : Int) := by omega
        have h1 : (i : Int) < (l.length : Int) := by omega
        refine Ex.rd_some (a := a) (l := l.flatMap kc) (by rw [flat_len kc_len]; omega) (fun ad ha => ?_)
        subst ha
        have hv : sub (l.flatMap kc) ((i : Int).toNat * 5) 5 = some (kc l[i]) := by rw [Int.toNat_natCast]; exact sub_flat kc_len l i hlt
        have hlen : ((l.take i).map sk).length ≤ 2 := by rw [List.length_map, List.length_take]; omega
        have htk : (l.take (i + 1)).map sk = (l.take i).map sk ++ [sk l[i]] := by rw [List.take_succ_eq_append_getElem hlt, List.map_append]; rfl
        generalize hk : l[i] = k at *
        obtain ⟨k1, k2, k3, k4, k5⟩ := k
        have b1 := wn_bd k1 1 255 (by omega)
        have b2 := wn_bd k2 0 255 (by omega)
        have c1 := conv_B (wn k1 1 255) (by omega) (by omega)
        have c2 := conv_B (wn k2 0 255) (by omega) (by omega)
        repeat' (first | (refine rG 3 [0, 3, 4, 13] ?_; ((try refine wO ?_) <;> (repeat' (refine g_split rfl (by decide) rfl (by decide) ?_ ?_ <;> intro hc <;> (try refine wO ?_))) <;> (try (refine wK ?_; intro _)))) | (refine rG 5 [0, 3, 4, 5] ?_; ((try refine wO ?_) <;> (try ((refine o_alloc_a (by decide) (fun _ => ?_)))) <;> (try (refine wK ?_; intro _)))) | refine wC ?_ | (refine ex_split rfl ?_ ?_ <;> intro hc))
        repeat' (first | (refine rA 6 [0, 3, 4] 22 ?_; ((refine aM 0 ?_) <;> ((refine aF 1 ?_) <;> ((refine aF 5 ?_) <;> ((refine aF 9 ?_) <;> ((refine aF 12 ?_) <;> ((refine aF 15 ?_) <;> ((refine oa_confs [(20, undef), (21, undef), (22, .int .i64 k1), (23, .int .i64 (wn k1 1 255)), (24, .int .u64 (U (B (wn k1 1 255)))), (25, undef), (26, .int .i64 k2), (27, .int .i64 (wn k2 0 255)), (28, .int .u64 (U (B (wn k2 0 255)))), (29, undef), (30, .int .i64 k3), (31, .int .i64 (wn k3 2 4)), (32, undef), (33, .int .i64 k4), (34, .int .i64 (wn k4 1 4)), (35, undef), (36, .int .i64 k5), (37, .int .i64 (wn k5 1 6))] [20, 21, 22, 23, 24, 25, 26, 27, 28, 29, 30, 31, 32, 33, 34, 35, 36, 37] _ _ 18 12 4 _ [0, 2, 3, 4, 18, 6, 7, 8, 18, 10, 11, 18, 13, 14, 18, 16, 17, 18] [2, 3, 4, 6, 7, 8, 10, 11, 13, 14, 16, 17] (by kernel_rfl) rfl rfl rfl rfl (by kernel_rfl) (List.forall_mem_cons.2 ⟨?_, List.forall_mem_cons.2 ⟨?_, List.forall_mem_cons.2 ⟨?_, List.forall_mem_cons.2 ⟨?_, List.forall_mem_cons.2 ⟨?_, List.forall_mem_cons.2 ⟨?_, List.forall_mem_cons.2 ⟨?_, List.forall_mem_cons.2 ⟨?_, List.forall_mem_cons.2 ⟨?_, List.forall_mem_cons.2 ⟨?_, List.forall_mem_cons.2 ⟨?_, List.forall_mem_cons.2 ⟨?_, List.forall_mem_nil _⟩⟩⟩⟩⟩⟩⟩⟩⟩⟩⟩⟩) ?_; (intro e Φ hd ho k; refine ⟨_, rfl, ?_⟩; have hu0 := ho 21 (by kernel_rfl); clear hd ho; have he := (put_same hu0).symm; rw [he] at k; rw [he]; (first | refine o_load_s (v := .int _ _) (by decide) rfl rfl ?_ | refine o_load_s (by decide) rfl rfl ?_ | refine o_load_r (by decide) rfl (by assumption) ?_ | refine o_load_r (v := .int _ _) (by decide) rfl rfl ?_); refine ops_nil ?_; first | exact k _ (Ent.refl _) | exact k _ ent_take); (intro e Φ hd ho k; refine ⟨_, rfl, ?_⟩; have hu0 := hd 2 (by kernel_rfl) (by kernel_rfl); clear hd ho; have he := (put_same hu0).symm; rw [he] at k; rw [he]; (refine o_call (within _ _ _ (by decide) (by decide) (by decide) (by decide)) (by first | exact True.intro | (show _ < _; decide)) rfl rfl (fun _ _ => ?_)); refine ops_nil ?_; first | exact k _ (Ent.refl _) | exact k _ ent_take); (intro e Φ hd ho k; refine ⟨_, rfl, ?_⟩; have hu0 := hd 3 (by kernel_rfl) (by kernel_rfl); clear hd ho; have he := (put_same hu0).symm; rw [he] at k; rw [he]; ((refine o_conv (by decide) rfl ?_; rw [c1])); refine ops_nil ?_; first | exact k _ (Ent.refl _) | exact k _ ent_take); (intro e Φ hd ho k; refine ⟨_, rfl, ?_⟩; have hu0 := ho 25 (by kernel_rfl); clear hd ho; have he := (put_same hu0).symm; rw [he] at k; rw [he]; (first | refine o_load_s (v := .int _ _) (by decide) rfl rfl ?_ | refine o_load_s (by decide) rfl rfl ?_ | refine o_load_r (by decide) rfl (by assumption) ?_ | refine o_load_r (v := .int _ _) (by decide) rfl rfl ?_); refine ops_nil ?_; first | exact k _ (Ent.refl _) | exact k _ ent_take); (intro e Φ hd ho k; refine ⟨_, rfl, ?_⟩; have hu0 := hd 6 (by kernel_rfl) (by kernel_rfl); clear hd ho; have he := (put_same hu0).symm; rw [he] at k; rw [he]; (refine o_call (within _ _ _ (by decide) (by decide) (by decide) (by decide)) (by first | exact True.intro | (show _ < _; decide)) rfl rfl (fun _ _ => ?_)); refine ops_nil ?_; first | exact k _ (Ent.refl _) | exact k _ ent_take); (intro e Φ hd ho k; refine ⟨_, rfl, ?_⟩; have hu0 := hd 7 (by kernel_rfl) (by kernel_rfl); clear hd ho; have he := (put_same hu0).symm; rw [he] at k; rw [he]; ((refine o_conv (by decide) rfl ?_; rw [c2])); refine ops_nil ?_; first | exact k _ (Ent.refl _) | exact k _ ent_take); (intro e Φ hd ho k; refine ⟨_, rfl, ?_⟩; have hu0 := ho 29 (by kernel_rfl); clear hd ho; have he := (put_same hu0).symm; rw [he] at k; rw [he]; (first | refine o_load_s (v := .int _ _) (by decide) rfl rfl ?_ | refine o_load_s (by decide) rfl rfl ?_ | refine o_load_r (by decide) rfl (by assumption) ?_ | refine o_load_r (v := .int _ _) (by decide) rfl rfl ?_); refine ops_nil ?_; first | exact k _ (Ent.refl _) | exact k _ ent_take); (intro e Φ hd ho k; refine ⟨_, rfl, ?_⟩; have hu0 := hd 10 (by kernel_rfl) (by kernel_rfl); clear hd ho; have he := (put_same hu0).symm; rw [he] at k; rw [he]; (refine o_call (within _ _ _ (by decide) (by decide) (by decide) (by decide)) (by first | exact True.intro | (show _ < _; decide)) rfl rfl (fun _ _ => ?_)); refine ops_nil ?_; first | exact k _ (Ent.refl _) | exact k _ ent_take); (intro e Φ hd ho k; refine ⟨_, rfl, ?_⟩; have hu0 := ho 32 (by kernel_rfl); clear hd ho; have he := (put_same hu0).symm; rw [he] at k; rw [he]; (first | refine o_load_s (v := .int _ _) (by decide) rfl rfl ?_ | refine o_load_s (by decide) rfl rfl ?_ | refine o_load_r (by decide) rfl (by assumption) ?_ | refine o_load_r (v := .int _ _) (by decide) rfl rfl ?_); refine ops_nil ?_; first | exact k _ (Ent.refl _) | exact k _ ent_take); (intro e Φ hd ho k; refine ⟨_, rfl, ?_⟩; have hu0 := hd 13 (by kernel_rfl) (by kernel_rfl); clear hd ho; have he := (put_same hu0).symm; rw [he] at k; rw [he]; (refine o_call (within _ _ _ (by decide) (by decide) (by decide) (by decide)) (by first | exact True.intro | (show _ < _; decide)) rfl rfl (fun _ _ => ?_)); refine ops_nil ?_; first | exact k _ (Ent.refl _) | exact k _ ent_take); (intro e Φ hd ho k; refine ⟨_, rfl, ?_⟩; have hu0 := ho 35 (by kernel_rfl); clear hd ho; have he := (put_same hu0).symm; rw [he] at k; rw [he]; (first | refine o_load_s (v := .int _ _) (by decide) rfl rfl ?_ | refine o_load_s (by decide) rfl rfl ?_ | refine o_load_r (by decide) rfl (by assumption) ?_ | refine o_load_r (v := .int _ _) (by decide) rfl rfl ?_); refine ops_nil ?_; first | exact k _ (Ent.refl _) | exact k _ ent_take); (intro e Φ hd ho k; refine ⟨_, rfl, ?_⟩; have hu0 := hd 16 (by kernel_rfl) (by kernel_rfl); clear hd ho; have he := (put_same hu0).symm; rw [he] at k; rw [he]; (refine o_call (within _ _ _ (by decide) (by decide) (by decide) (by decide)) (by first | exact True.intro | (show _ < _; decide)) rfl rfl (fun _ _ => ?_)); refine ops_nil ?_; first | exact k _ (Ent.refl _) | exact k _ ent_take); ((refine aO 18 ?_ <;> (refine wO ?_) <;> refine oa_nil ?_) <;> ((refine aO 19 ?_ <;> ((refine o_buildSlice (by decide) rfl rfl rfl (fun _ => ?_))) <;> refine oa_nil ?_) <;> ((refine aO 20 ?_ <;> (refine o_appendT (cells := sc) (xs := (l.take i).map sk) (ys := [sk (k1, k2, k3, k4, k5)]) sc_len sc_one (by decide) rfl rfl rfl rfl rfl (by simp only [List.length_cons, List.length_nil]; omega) (by simp only [maxLen, List.length_cons, List.length_nil]; omega) (fun a' cap' hc' => ?_)) <;> refine oa_nil ?_) <;> ((refine aA 21 ?_) <;> ((refine dK ?_; intro _))))))))))))))) | refine wC ?_ | (refine ex_split rfl ?_ ?_ <;> intro hc))
        repeat' (first | (refine rG 4 [0, 3, 4] ?_; ((try (refine wK ?_; intro _)))) | refine wC ?_ | (refine ex_split rfl ?_ ?_ <;> intro hc))
        rw [ei]
        refine ⟨l.length - (i + 1), by omega, _, ?_, _, i + 1, a', cap', by rw [htk], rfl, by omega, by omega, rfl⟩
        rw [htk]; exact ent_take
      · have hi2e : i = 2 := by omega
        subst hi2e
        have hd2 : decide (((2 : Nat) : Int) < 2) = false := by decide
        repeat' (first | (refine rG 3 [0, 3, 4, 13] ?_; ((try refine wO ?_) <;> (repeat' (refine g_split rfl (by decide) rfl (by decide) ?_ ?_ <;> intro hc <;> (try refine wO ?_))) <;> (try (refine wK ?_; intro _)))) | (refine rG 7 [2] ?_; ((try (refine wK ?_; intro _)))) | refine wC ?_ | (refine ex_split rfl ?_ ?_ <;> intro hc))
        exact fin (.inr rfl) (_, _) (resl1 rfl (rv_tmp rfl)) trivial ent_take
    · have hil : i = l.length := by omega
      subst hil
      have hd : decide ((l.length : Int) < (l.length : Int)) = false := by simp
      have ht2 : l.take l.length = l.take 2 := by rw [List.take_length, List.take_of_length_le hi2]
      repeat' (first | (refine rG 3 [0, 3, 4, 13] ?_; ((try refine wO ?_) <;> (repeat' (refine g_split rfl (by decide) rfl (by decide) ?_ ?_ <;> intro hc <;> (try refine wO ?_))) <;> (try (refine wK ?_; intro _)))) | (refine rG 7 [2] ?_; ((try (refine wK ?_; intro _)))) | refine wC ?_ | (refine ex_split rfl ?_ ?_ <;> intro hc))
      rw [ht2]
      exact fin (.inr rfl) (_, _) (resl1 rfl (rv_tmp rfl)) trivial ent_take
theorem sinks1 (H : HP) (a : Option Addr) (k : Kk) (cap : Nat) [hr : RdC H a (kc k)] : Spec Tryz.prog 35 [.slice a 1 cap] H (X := Option Addr × Nat) (fun y => .slice y.1 1 y.2) (fun _ => True) (fun y => ow 74 5 y.1 1 y.2 (sc (sk k)) * H) := by
  have := sinks H a [k] 1 cap (cs := kc k) rfl (by simp) (by simp)
  have e : (([k].take 2).map sk).flatMap sc = sc (sk k) := by simp
  rw [e] at this
  exact this
theorem aggr (k : Int) : Spec Tryz.prog 83 [.int .i64 k] 1 (X := Unit) (fun _ => .bool (decide (k ≥ 1) && decide (k ≤ 4))) (fun _ => True) (fun _ => 1) := by
  refine spec_of Tryz.func83 rfl Tryz.ntmps83 rfl ?_
  repeat' (first | (refine rG 0 [0] ?_; ((try (refine wK ?_; intro _)))) | (refine rG 1 [2] ?_; ((try refine wO ?_) <;> (repeat' (refine g_split rfl (by decide) rfl (by decide) ?_ ?_ <;> intro hc <;> (try refine wO ?_))) <;> (try (refine wK ?_; intro _)))) | refine wC ?_ | (refine ex_split rfl ?_ ?_ <;> intro hc))
  all_goals exact fin (.inr rfl) () (resl1 rfl (rv_tmp (by show Value.bool _ = Value.bool _; congr 1; simp_all; try omega))) trivial (Ent.toOne _)
theorem plcS (x : Int) : Spec Tryz.prog 84 [.int .i64 x] 1 (X := Unit) (fun _ => .bool (plc x)) (fun _ => True) (fun _ => 1) := by
  refine spec_of Tryz.func84 rfl Tryz.ntmps84 rfl ?_
  repeat' (first | (refine rG 0 [0] ?_; ((try (refine wK ?_; intro _)))) | (refine rG 1 [2] ?_; ((try refine wO ?_) <;> (repeat' (refine g_split rfl (by decide) rfl (by decide) ?_ ?_ <;> intro hc <;> (try refine wO ?_))) <;> (try (refine wK ?_; intro _)))) | refine wC ?_ | (refine ex_split rfl ?_ ?_ <;> intro hc))
  all_goals exact fin (.inr rfl) () (resl1 rfl (rv_tmp (by show Value.bool _ = Value.bool _; congr 1; simp_all [plc]; try omega))) trivial (Ent.toOne _)
theorem most (size slide : Int) (h : slide ≠ 0) : Spec Tryz.prog 110 [.int .i64 size, .int .i64 slide] 1 (X := Unit) (fun _ => .int .i64 (IntKind.i64.wrap ((IntKind.i64.wrap (IntKind.i64.wrap (size + slide) - 1)).tdiv slide))) (fun _ => True) (fun _ => 1) := by
  refine spec_of Tryz.func110 rfl Tryz.ntmps110 rfl ?_
  repeat' (first | (refine rG 0 [0, 1] ?_; ((try (refine wK ?_; intro _)))) | (refine rG 1 [4] ?_; ((try (refine wK ?_; intro _)))) | refine wC ?_ | (refine ex_split rfl ?_ ?_ <;> intro hc))
  exact fin (.inr rfl) () (resl1 rfl (rv_tmp rfl)) trivial (Ent.toOne _)
theorem winr (size slide : Int) : Spec Tryz.prog 82 [.int .i64 size, .int .i64 slide] 1 (X := Unit) (fun _ => .bool (wr size slide)) (fun _ => True) (fun _ => 1) := by
  by_cases h1 : slide ≥ 1
  · have hne : slide ≠ 0 := by omega
    have d1 : decide (slide ≥ 1) = true := decide_eq_true h1
    refine spec_of Tryz.func82 rfl Tryz.ntmps82 rfl ?_
    repeat' (first | (refine rG 0 [0, 1] ?_; ((try (refine wK ?_; intro _)))) | (refine rG 1 [4] ?_; ((try refine wO ?_) <;> (repeat' (refine g_split rfl (by decide) rfl (by decide) ?_ ?_ <;> intro hc <;> (try refine wO ?_))) <;> (try (refine o_call (most size slide hne) (by first | exact True.intro | (show _ < _; decide)) rfl rfl (fun _ _ => ?_))) <;> (try refine wO ?_) <;> (repeat' (refine g_split rfl (by decide) rfl (by decide) ?_ ?_ <;> intro hc <;> (try refine wO ?_))) <;> (try (refine wK ?_; intro _)))) | refine wC ?_ | (refine ex_split rfl ?_ ?_ <;> intro hc))
    all_goals exact fin (.inr rfl) () (resl1 rfl (rv_tmp (by show Value.bool _ = Value.bool _; congr 1; simp_all [wr]; try omega))) trivial (Ent.toOne _)
  · have d1 : decide (slide ≥ 1) = false := decide_eq_false h1
    have e : wr size slide = false := by unfold wr; rw [d1]; rfl
    rw [e]
    refine spec_of Tryz.func82 rfl Tryz.ntmps82 rfl ?_
    repeat' (first | (refine rG 0 [0, 1] ?_; ((try (refine wK ?_; intro _)))) | (refine rG 1 [4] ?_; ((try refine wO ?_) <;> (repeat' (refine g_split rfl (by decide) rfl (by decide) ?_ ?_ <;> intro hc <;> (try refine wO ?_))) <;> (try (skip)) <;> (try refine wO ?_) <;> (repeat' (refine g_split rfl (by decide) rfl (by decide) ?_ ?_ <;> intro hc <;> (try refine wO ?_))) <;> (try (refine wK ?_; intro _)))) | refine wC ?_ | (refine ex_split rfl ?_ ?_ <;> intro hc))
    exact fin (.inr rfl) () (resl1 rfl (rv_tmp rfl)) trivial (Ent.toOne _)
theorem fromS (s : Sk) : Spec Tryz.prog 49 [.agg (sc s).toArray] 1 (X := Unit) (fun _ => .int .u64 (U s.1)) (fun _ => True) (fun _ => 1) := by
  obtain ⟨f, to, le, ag, ti⟩ := s
  refine spec_of Tryz.func49 rfl Tryz.ntmps49 rfl ?_
  repeat' (first | (refine rG 0 [1] ?_; ((try ((refine o_box (by decide) (v := .agg (List.toArray _)) rfl rfl (fun _ => ?_)))) <;> (try (refine wK ?_; intro _)))) | (refine rG 1 [2] ?_; ((try (refine wK ?_; intro _)))) | refine wC ?_ | (refine ex_split rfl ?_ ?_ <;> intro hc))
  exact fin (.inr rfl) () (resl1 rfl (rv_tmp rfl)) trivial (Ent.toOne _)
theorem toS (s : Sk) : Spec Tryz.prog 50 [.agg (sc s).toArray] 1 (X := Unit) (fun _ => .int .u64 (U s.2.1)) (fun _ => True) (fun _ => 1) := by
  obtain ⟨f, to, le, ag, ti⟩ := s
  refine spec_of Tryz.func50 rfl Tryz.ntmps50 rfl ?_
  repeat' (first | (refine rG 0 [1] ?_; ((try ((refine o_box (by decide) (v := .agg (List.toArray _)) rfl rfl (fun _ => ?_)))) <;> (try (refine wK ?_; intro _)))) | (refine rG 1 [2] ?_; ((try (refine wK ?_; intro _)))) | refine wC ?_ | (refine ex_split rfl ?_ ?_ <;> intro hc))
  exact fin (.inr rfl) () (resl1 rfl (rv_tmp rfl)) trivial (Ent.toOne _)
end Go.Proofs.YtcelailgedndnaaGreatS.R
namespace Go.Proofs.YtcelailgedndnaaGreatS.R
open Go.Proofs.YtcelailgedndnaaGreatS
open Go.RowKit
set_option linter.unusedVariables false
set_option linter.unusedSimpArgs false
def pipr (l : List (Int × Int)) (size slide agg snk feed : Int) : Bool := (decide (l.length ≤ 6) && l.all rt) && wr size slide && (decide (agg ≥ 1) && decide (agg ≤ 4)) && plc snk && plc feed
def mayF (id : Int) (l : List (Int × Int)) (size slide agg snk feed : Int) (ss : List Sk) : Bool := (decide (id ≥ 0) && decide (id < 8)) && pipr l size slide agg snk feed && inF (·.1) id snk ss && inF (·.2.1) id feed ss
set_option linter.unusedVariables false
set_option linter.unusedSimpArgs false
attribute [local irreducible] Ops Ex Spec T V QO OA Rn
theorem rsink (s : Sk) : Spec Tryz.prog 93 [.agg (sc s).toArray] 1 (X := Unit) (fun _ => .bool (rs1 s)) (fun _ => True) (fun _ => 1) := by
  obtain ⟨f, to, le, ag, ti⟩ := s
  by_cases hf : f = 0
  · have e0 : (U f == 0) = true := by rw [← U_zero, U_eq]; exact decide_eq_true hf
    have er : rs1 (f, to, le, ag, ti) = false := by unfold rs1; simp only [hf, decide_true]; rfl
    rw [er]
    refine spec_of Tryz.func93 rfl Tryz.ntmps93 rfl ?_
    repeat' (first | (refine rG 0 [1] ?_; ((try ((refine o_box (by decide) (v := .agg (List.toArray _)) rfl rfl (fun _ => ?_)))) <;> (try (refine wK ?_; intro _)))) | (refine rG 1 [1, 15] ?_; ((try refine wO ?_) <;> (repeat' (refine g_split rfl (by decide) rfl (by decide) ?_ ?_ <;> intro hc <;> (try refine wO ?_))) <;> (try ((refine o_buildSlice (by decide) rfl rfl rfl (fun _ => ?_)))) <;> (try refine wO ?_) <;> (repeat' (refine g_split rfl (by decide) rfl (by decide) ?_ ?_ <;> intro hc <;> (try refine wO ?_))) <;> (try (skip)) <;> (try refine wO ?_) <;> (repeat' (refine g_split rfl (by decide) rfl (by decide) ?_ ?_ <;> intro hc <;> (try refine wO ?_))) <;> (try (skip)) <;> (try refine wO ?_) <;> (repeat' (refine g_split rfl (by decide) rfl (by decide) ?_ ?_ <;> intro hc <;> (try refine wO ?_))) <;> (try (refine wK ?_; intro _)))) | (refine rG 2 [2] ?_; ((try (refine wK ?_; intro _)))) | refine wC ?_ | (refine ex_split rfl ?_ ?_ <;> intro hc))
    exact fin (.inr rfl) () (resl1 rfl (rv_tmp rfl)) trivial (Ent.toOne _)
  · have e0 : (U f == 0) = false := by rw [← U_zero, U_eq]; exact decide_eq_false hf
    have dz : decide (f = 0) = false := decide_eq_false hf
    have hj : jn [f, to] 0 = f ||| to := jn2e f to
    cases hb : bl (jn [f, to] 0) 255#64 with
    | false =>
      have er : rs1 (f, to, le, ag, ti) = false := by unfold rs1; simp only [dz, ← hj, hb]; rfl
      rw [er]
      refine spec_of Tryz.func93 rfl Tryz.ntmps93 rfl ?_
      repeat' (first | (refine rG 0 [1] ?_; ((try ((refine o_box (by decide) (v := .agg (List.toArray _)) rfl rfl (fun _ => ?_)))) <;> (try (refine wK ?_; intro _)))) | (refine rG 1 [1, 15] ?_; ((try refine wO ?_) <;> (repeat' (refine g_split rfl (by decide) rfl (by decide) ?_ ?_ <;> intro hc <;> (try refine wO ?_))) <;> (try ((refine o_buildSlice (by decide) rfl rfl rfl (fun _ => ?_)))) <;> (try refine wO ?_) <;> (repeat' (refine g_split rfl (by decide) rfl (by decide) ?_ ?_ <;> intro hc <;> (try refine wO ?_))) <;> (try (refine o_callH (join_ _ _ [f, to] _ _ rfl rfl (by simp)) (by first | exact True.intro | (show _ < _; decide)) rfl rfl (fun _ _ => ?_))) <;> (try refine wO ?_) <;> (repeat' (refine g_split rfl (by decide) rfl (by decide) ?_ ?_ <;> intro hc <;> (try refine wO ?_))) <;> (try (refine o_call (belowV hb) (by first | exact True.intro | (show _ < _; decide)) rfl rfl (fun _ _ => ?_))) <;> (try refine wO ?_) <;> (repeat' (refine g_split rfl (by decide) rfl (by decide) ?_ ?_ <;> intro hc <;> (try refine wO ?_))) <;> (try (refine wK ?_; intro _)))) | (refine rG 2 [2] ?_; ((try (refine wK ?_; intro _)))) | refine wC ?_ | (refine ex_split rfl ?_ ?_ <;> intro hc))
      exact fin (.inr rfl) () (resl1 rfl (rv_tmp rfl)) trivial (Ent.toOne _)
    | true =>
      have er : rs1 (f, to, le, ag, ti) = rs2 (f, to, le, ag, ti) := by unfold rs1; simp only [dz, ← hj, hb]; rfl
      rw [er]
      refine spec_of Tryz.func93 rfl Tryz.ntmps93 rfl ?_
      repeat' (first | (refine rG 0 [1] ?_; ((try ((refine o_box (by decide) (v := .agg (List.toArray _)) rfl rfl (fun _ => ?_)))) <;> (try (refine wK ?_; intro _)))) | (refine rG 1 [1, 15] ?_; ((try refine wO ?_) <;> (repeat' (refine g_split rfl (by decide) rfl (by decide) ?_ ?_ <;> intro hc <;> (try refine wO ?_))) <;> (try ((refine o_buildSlice (by decide) rfl rfl rfl (fun _ => ?_)))) <;> (try refine wO ?_) <;> (repeat' (refine g_split rfl (by decide) rfl (by decide) ?_ ?_ <;> intro hc <;> (try refine wO ?_))) <;> (try (refine o_callH (join_ _ _ [f, to] _ _ rfl rfl (by simp)) (by first | exact True.intro | (show _ < _; decide)) rfl rfl (fun _ _ => ?_))) <;> (try refine wO ?_) <;> (repeat' (refine g_split rfl (by decide) rfl (by decide) ?_ ?_ <;> intro hc <;> (try refine wO ?_))) <;> (try (refine o_call (belowV hb) (by first | exact True.intro | (show _ < _; decide)) rfl rfl (fun _ _ => ?_))) <;> (try refine wO ?_) <;> (repeat' (refine g_split rfl (by decide) rfl (by decide) ?_ ?_ <;> intro hc <;> (try refine wO ?_))) <;> (try (refine wK ?_; intro _)))) | (refine rG 3 [2] ?_; ((try refine wO ?_) <;> (repeat' (refine g_split rfl (by decide) rfl (by decide) ?_ ?_ <;> intro hc <;> (try refine wO ?_))) <;> (try (refine o_call (aggr ag) (by first | exact True.intro | (show _ < _; decide)) rfl rfl (fun _ _ => ?_))) <;> (try refine wO ?_) <;> (repeat' (refine g_split rfl (by decide) rfl (by decide) ?_ ?_ <;> intro hc <;> (try refine wO ?_))) <;> (try (refine wK ?_; intro _)))) | refine wC ?_ | (refine ex_split rfl ?_ ?_ <;> intro hc))
      all_goals exact fin (.inr rfl) () (resl1 rfl (rv_tmp (by show Value.bool _ = Value.bool _; congr 1; simp_all [rs2]; try omega))) trivial (Ent.toOne _)
theorem rsinks (H : HP) (a : Option Addr) (l : List Sk) (m cap : Nat) {cs : List Value} [hr : RdC H a cs] (hm : m = l.length) (hcs : cs = l.flatMap sc) (hl : l.length ≤ 1000000) : Spec Tryz.prog 64 [.slice a m cap] H (X := Unit) (fun _ => .bool (l.all rs1 && decide (l.length ≤ 4))) (fun _ => True) (fun _ => H) := by
  subst hm; subst hcs
  refine spec_of Tryz.func64 rfl Tryz.ntmps64 rfl ?_
  repeat' (first | (refine rG 0 [0] ?_; ((try (refine wK ?_; intro _)))) | (refine rG 1 [0, 5, 6, 7] ?_; ((try (refine wK ?_; intro _)))) | refine wC ?_ | (refine ex_split rfl ?_ ?_ <;> intro hc))
  refine ex_loopE (fun mm e H' => ∃ g, ∃ i : Nat, e = put (put (put (put g 0 (.slice a l.length cap)) 5 (.slice a l.length cap)) 6 (.int .i64 (l.length : Int))) 7 (.int .i64 (i : Int)) ∧ H' = H ∧ i ≤ l.length ∧ mm = l.length - i ∧ (l.drop i).all rs1 = l.all rs1) (m := l.length) ⟨_, 0, rfl, rfl, by omega, by omega, rfl⟩ ?_ ?_
  · exact ent_take
  · rintro mm e H' ⟨g, i, rfl, rfl, hi, rfl, hs⟩
    by_cases hlt : i < l.length
    · have hd : decide ((i : Int) < (l.length : Int)) = true := by simp; omega
      have h0 : 0 ≤ (i : Int) := by omega
      have h1 : (i : Int) < (l.length : Int) := by omega
      refine Ex.rd_some (a := a) (l := l.flatMap sc) (by rw [flat_len sc_len]; omega) (fun ad ha => ?_)
      subst ha
      have hv : sub (l.flatMap sc) ((i : Int).toNat * 5) 5 = some (sc l[i]) := by rw [Int.toNat_natCast]; exact sub_flat sc_len l i hlt
      have ei : IntKind.i64.wrap ((i : Int) + 1) = ((i + 1 : Nat) : Int) := by rw [IntKind.wrap_i64]; omega
      rw [List.drop_eq_getElem_cons hlt, List.all_cons] at hs
      cases hap : rs1 l[i] with
      | true =>
        rw [hap, Bool.true_and] at hs
        have hn : (!rs1 l[i]) = false := by rw [hap]; rfl
        repeat' (first | (refine rG 2 [0, 5, 6, 7, 8] ?_; ((try (refine wK ?_; intro _)))) | (refine rG 3 [0, 4, 5, 6, 7] ?_; ((try refine wO ?_) <;> (try ((refine o_alloc_a (by decide) (fun _ => ?_)))) <;> (try (refine wK ?_; intro _)))) | (refine rG 4 [0, 5, 6, 7, 13] ?_; ((try refine wO ?_) <;> (try ((refine o_call (rsink l[i]) (by first | exact True.intro | (show _ < _; decide)) rfl rfl (fun _ _ => ?_)))) <;> (try (refine wK ?_; intro _)))) | (refine rG 6 [0, 5, 6, 7] ?_; ((try (refine wK ?_; intro _)))) | refine wC ?_ | (refine ex_split rfl ?_ ?_ <;> intro hc))
        rw [ei]
        refine ⟨l.length - (i + 1), by omega, _, ?_, _, i + 1, rfl, rfl, by omega, rfl, hs⟩
        exact ent_take
      | false =>
        rw [hap, Bool.false_and] at hs
        have hn : (!rs1 l[i]) = true := by rw [hap]; rfl
        rw [← hs, Bool.false_and]
        repeat' (first | (refine rG 2 [0, 5, 6, 7, 8] ?_; ((try (refine wK ?_; intro _)))) | (refine rG 3 [0, 4, 5, 6, 7] ?_; ((try refine wO ?_) <;> (try ((refine o_alloc_a (by decide) (fun _ => ?_)))) <;> (try (refine wK ?_; intro _)))) | (refine rG 4 [0, 5, 6, 7, 13] ?_; ((try refine wO ?_) <;> (try ((refine o_call (rsink l[i]) (by first | exact True.intro | (show _ < _; decide)) rfl rfl (fun _ _ => ?_)))) <;> (try (refine wK ?_; intro _)))) | (refine rG 5 [2] ?_; ((try (refine wK ?_; intro _)))) | refine wC ?_ | (refine ex_split rfl ?_ ?_ <;> intro hc))
        exact fin (.inr rfl) () (resl1 rfl (rv_tmp rfl)) trivial ent_take
    · have hil : i = l.length := by omega
      subst hil
      have hd : decide ((l.length : Int) < (l.length : Int)) = false := by simp
      have e4 : decide ((l.length : Int) ≤ 4) = decide (l.length ≤ 4) := by rw [Bool.eq_iff_iff]; simp; omega
      rw [List.drop_length, List.all_nil] at hs
      rw [← hs, Bool.true_and]
      repeat' (first | (refine rG 2 [0, 5, 6, 7, 8] ?_; ((try (refine wK ?_; intro _)))) | (refine rG 7 [2] ?_; ((try (refine wK ?_; intro _)))) | refine wC ?_ | (refine ex_split rfl ?_ ?_ <;> intro hc))
      rw [e4]
      exact fin (.inr rfl) () (resl1 rfl (rv_tmp rfl)) trivial ent_take
theorem in_ (fn : Nat) (g : Sk → BitVec 64) (H : HP) (id at_ : Int) (a : Option Addr) (l : List Sk) (m cap : Nat) {cs : List Value} [hr : RdC H a cs] [Goes Tryz.prog fn] (hfn : ∀ s, Spec Tryz.prog fn [.agg (sc s).toArray] 1 (X := Unit) (fun _ => .int .u64 (U (g s))) (fun _ => True) (fun _ => 1)) (hm : m = l.length) (hcs : cs = l.flatMap sc) (hl : l.length ≤ 1000000) :
    Spec Tryz.prog 51 [.int .i64 id, .int .i64 at_, .slice a m cap, .func (.func fn) #[] #[]] H (X := Unit) (fun _ => .bool (inF g id at_ l)) (fun _ => True) (fun _ => H) := by
  subst hm; subst hcs
  unfold inF
  by_cases h1 : at_ = -1
  · have d1 : (at_ == -1) = true := by rw [h1]; rfl
    rw [if_pos d1]
    refine spec_of Tryz.func51 rfl Tryz.ntmps51 rfl ?_
    repeat' (first | (refine rG 0 [0, 1, 2, 3] ?_; ((try (refine wK ?_; intro _)))) | (refine rG 1 [0, 1, 2, 3, 10] ?_; ((try (refine wK ?_; intro _)))) | (refine rG 2 [8] ?_; ((try (refine wK ?_; intro _)))) | refine wC ?_ | (refine ex_split rfl ?_ ?_ <;> intro hc))
    exact fin (.inr rfl) () (resl1 rfl (rv_tmp rfl)) trivial ent_take
  · have d1 : (at_ == -1) = false := by simpa using h1
    rw [if_neg (by rw [d1]; decide)]
    by_cases h2 : at_ ≥ 0
    · have d2 : decide (at_ ≥ 0) = true := decide_eq_true h2
      rw [if_pos d2]
      by_cases h3 : at_ < (l.length : Int)
      · have d3 : decide (at_ < (l.length : Int)) = true := decide_eq_true h3
        have hlt : at_.toNat < l.length := by omega
        rw [List.getElem?_eq_getElem hlt]
        refine Spec.ent ?_ (Ent.refl _)
        refine spec_of Tryz.func51 rfl Tryz.ntmps51 rfl ?_
        refine Ex.rd_some (a := a) (l := l.flatMap sc) (by rw [flat_len sc_len]; omega) (fun ad ha => ?_)
        subst ha
        have hv : sub (l.flatMap sc) (at_.toNat * 5) 5 = some (sc l[at_.toNat]) := sub_flat sc_len l _ hlt
        repeat' (first | (refine rG 0 [0, 1, 2, 3] ?_; ((try (refine wK ?_; intro _)))) | (refine rG 1 [0, 1, 2, 3, 10] ?_; ((try (refine wK ?_; intro _)))) | (refine rG 3 [8] ?_; ((try refine wO ?_) <;> (repeat' (refine g_split rfl (by decide) rfl (by decide) ?_ ?_ <;> intro hc <;> (try refine wO ?_))) <;> (try (refine o_call (hfn l[at_.toNat]) (by first | exact True.intro | (show _ < _; decide)) rfl rfl (fun _ _ => ?_))) <;> (try refine wO ?_) <;> (repeat' (refine g_split rfl (by decide) rfl (by decide) ?_ ?_ <;> intro hc <;> (try refine wO ?_))) <;> (try (refine o_call (hasV (m := g l[at_.toNat]) (k := id) rfl) (by first | exact True.intro | (show _ < _; decide)) rfl rfl (fun _ _ => ?_))) <;> (try (refine wK ?_; intro _)))) | refine wC ?_ | (refine ex_split rfl ?_ ?_ <;> intro hc))
        exact fin (.inr rfl) () (resl1 rfl (rv_tmp rfl)) trivial ent_take
      · have d3 : decide (at_ < (l.length : Int)) = false := decide_eq_false h3
        rw [List.getElem?_eq_none (by omega)]
        refine spec_of Tryz.func51 rfl Tryz.ntmps51 rfl ?_
        repeat' (first | (refine rG 0 [0, 1, 2, 3] ?_; ((try (refine wK ?_; intro _)))) | (refine rG 1 [0, 1, 2, 3, 10] ?_; ((try (refine wK ?_; intro _)))) | (refine rG 3 [8] ?_; ((try refine wO ?_) <;> (repeat' (refine g_split rfl (by decide) rfl (by decide) ?_ ?_ <;> intro hc <;> (try refine wO ?_))) <;> (try (skip)) <;> (try refine wO ?_) <;> (repeat' (refine g_split rfl (by decide) rfl (by decide) ?_ ?_ <;> intro hc <;> (try refine wO ?_))) <;> (try (skip)) <;> (try (refine wK ?_; intro _)))) | refine wC ?_ | (refine ex_split rfl ?_ ?_ <;> intro hc))
        exact fin (.inr rfl) () (resl1 rfl (rv_tmp rfl)) trivial ent_take
    · have d2 : decide (at_ ≥ 0) = false := decide_eq_false h2
      rw [if_neg (by rw [d2]; decide)]
      refine spec_of Tryz.func51 rfl Tryz.ntmps51 rfl ?_
      repeat' (first | (refine rG 0 [0, 1, 2, 3] ?_; ((try (refine wK ?_; intro _)))) | (refine rG 1 [0, 1, 2, 3, 10] ?_; ((try (refine wK ?_; intro _)))) | (refine rG 3 [8] ?_; ((try refine wO ?_) <;> (repeat' (refine g_split rfl (by decide) rfl (by decide) ?_ ?_ <;> intro hc <;> (try refine wO ?_))) <;> (try (skip)) <;> (try refine wO ?_) <;> (repeat' (refine g_split rfl (by decide) rfl (by decide) ?_ ?_ <;> intro hc <;> (try refine wO ?_))) <;> (try (skip)) <;> (try (refine wK ?_; intro _)))) | refine wC ?_ | (refine ex_split rfl ?_ ?_ <;> intro hc))
      exact fin (.inr rfl) () (resl1 rfl (rv_tmp rfl)) trivial ent_take
theorem pright (H : HP) (a : Option Addr) (l : List (Int × Int)) (m cap : Nat) (size slide agg snk feed : Int) {cs : List Value} [hr : RdC H a cs] (hm : m = l.length) (hcs : cs = l.flatMap oc) (hl : l.length ≤ 1000000) :
    Spec Tryz.prog 48 [.agg #[.slice a m cap, .int .i64 size, .int .i64 slide, .int .i64 agg, .int .i64 snk, .int .i64 feed]] H (X := Unit) (fun _ => .bool (pipr l size slide agg snk feed)) (fun _ => True) (fun _ => H) := by
  subst hm
  refine spec_of Tryz.func48 rfl Tryz.ntmps48 rfl ?_
  repeat' (first | (refine rG 0 [1] ?_; ((try ((refine o_box (by decide) (v := .agg (List.toArray _)) rfl rfl (fun _ => ?_)))) <;> (try (refine wK ?_; intro _)))) | (refine rG 1 [2] ?_; ((try refine wO ?_) <;> (try (refine o_callH (right _ _ l _ hcs hl) (by first | exact True.intro | (show _ < _; decide)) rfl rfl (fun _ _ => ?_))) <;> (try refine wO ?_) <;> (repeat' (refine g_split rfl (by decide) rfl (by decide) ?_ ?_ <;> intro hc <;> (try refine wO ?_))) <;> (try (refine o_call (winr size slide) (by first | exact True.intro | (show _ < _; decide)) rfl rfl (fun _ _ => ?_))) <;> (try refine wO ?_) <;> (repeat' (refine g_split rfl (by decide) rfl (by decide) ?_ ?_ <;> intro hc <;> (try refine wO ?_))) <;> (try (refine o_call (aggr agg) (by first | exact True.intro | (show _ < _; decide)) rfl rfl (fun _ _ => ?_))) <;> (try refine wO ?_) <;> (repeat' (refine g_split rfl (by decide) rfl (by decide) ?_ ?_ <;> intro hc <;> (try refine wO ?_))) <;> (try (refine o_call (plcS snk) (by first | exact True.intro | (show _ < _; decide)) rfl rfl (fun _ _ => ?_))) <;> (try refine wO ?_) <;> (repeat' (refine g_split rfl (by decide) rfl (by decide) ?_ ?_ <;> intro hc <;> (try refine wO ?_))) <;> (try (refine o_call (plcS feed) (by first | exact True.intro | (show _ < _; decide)) rfl rfl (fun _ _ => ?_))) <;> (try (refine wK ?_; intro _)))) | refine wC ?_ | (refine ex_split rfl ?_ ?_ <;> intro hc))
  all_goals exact fin (.inr rfl) () (resl1 rfl (rv_tmp (by show Value.bool _ = Value.bool _; congr 1; unfold pipr; clear hcs hr hl; simp only [*, Bool.true_and, Bool.and_true, Bool.false_and, Bool.and_false, Bool.and_self, Bool.not_true, Bool.not_false]))) trivial ent_take
set_option maxHeartbeats 4000000 in
theorem may (H : HP) (id : Int) (a b : Option Addr) (l : List (Int × Int)) (ss : List Sk) (m cap ms caps : Nat) (size slide agg snk feed : Int) {cs ds : List Value} [hr : RdC H a cs] [hq : RdC H b ds] (hm : m = l.length) (hcs : cs = l.flatMap oc) (hl : l.length ≤ 1000000) (hms : ms = ss.length) (hds : ds = ss.flatMap sc) (hls : ss.length ≤ 1000000) :
    Spec Tryz.prog 27 [.int .i64 id, .agg #[.slice a m cap, .int .i64 size, .int .i64 slide, .int .i64 agg, .int .i64 snk, .int .i64 feed], .slice b ms caps] H (X := Unit) (fun _ => .bool (mayF id l size slide agg snk feed ss)) (fun _ => True) (fun _ => H) := by
  by_cases h1 : id ≥ 0
  · have d1 : decide (id < 0) = false := decide_eq_false (by omega)
    have d1' : decide (id ≥ 0) = true := decide_eq_true h1
    by_cases h2 : id < 8
    · have d2 : decide (id ≥ 8) = false := decide_eq_false (by omega)
      have d2' : decide (id < 8) = true := decide_eq_true h2
      cases hp : pipr l size slide agg snk feed with
      | true =>
        have hP := pright H a l m cap size slide agg snk feed hm hcs hl
        rw [hp] at hP
        cases hi : inF (·.1) id snk ss with
        | true =>
          have em : mayF id l size slide agg snk feed ss = inF (·.2.1) id feed ss := by unfold mayF; rw [d1', d2', hp, hi]; rfl
          rw [em]
          refine spec_of Tryz.func27 rfl Tryz.ntmps27 rfl ?_
          repeat' (first | (refine rG 0 [0, 2, 4] ?_; ((try ((refine o_box (by decide) (v := .agg (List.toArray _)) rfl rfl (fun _ => ?_)))) <;> (try (refine wK ?_; intro _)))) | (refine rG 1 [0, 2, 4, 19] ?_; ((try refine wO ?_) <;> (repeat' (refine g_split rfl (by decide) rfl (by decide) ?_ ?_ <;> intro hc <;> (try refine wO ?_))) <;> (try ((refine o_callH (pright _ a l m cap size slide agg snk feed hm hcs hl) (by first | exact True.intro | (show _ < _; decide)) rfl rfl (fun _ _ => ?_); rw [hp]))) <;> (try refine wO ?_) <;> (repeat' (refine g_split rfl (by decide) rfl (by decide) ?_ ?_ <;> intro hc <;> (try refine wO ?_))) <;> (try (refine wK ?_; intro _)))) | (refine rG 3 [0, 2, 4, 7] ?_; ((try (refine wK ?_; intro _)))) | (refine rG 4 [0, 2, 4, 7, 8] ?_; ((try (refine wK ?_; intro _)))) | (refine rG 5 [6] ?_; ((try refine wO ?_) <;> (try ((refine o_callH (in_ 49 (·.1) _ id snk b ss ms caps fromS hms hds hls) (by first | exact True.intro | (show _ < _; decide)) rfl rfl (fun _ _ => ?_); rw [hi]))) <;> (try refine wO ?_) <;> (repeat' (refine g_split rfl (by decide) rfl (by decide) ?_ ?_ <;> intro hc <;> (try refine wO ?_))) <;> (try (refine o_callH (in_ 50 (·.2.1) _ id feed b ss ms caps toS hms hds hls) (by first | exact True.intro | (show _ < _; decide)) rfl rfl (fun _ _ => ?_))) <;> (try (refine wK ?_; intro _)))) | refine wC ?_ | (refine ex_split rfl ?_ ?_ <;> intro hc))
          exact fin (.inr rfl) () (resl1 rfl (rv_tmp rfl)) trivial ent_take
        | false =>
          have em : mayF id l size slide agg snk feed ss = false := by unfold mayF; rw [hi, Bool.and_false]; rfl
          rw [em]
          refine spec_of Tryz.func27 rfl Tryz.ntmps27 rfl ?_
          repeat' (first | (refine rG 0 [0, 2, 4] ?_; ((try ((refine o_box (by decide) (v := .agg (List.toArray _)) rfl rfl (fun _ => ?_)))) <;> (try (refine wK ?_; intro _)))) | (refine rG 1 [0, 2, 4, 19] ?_; ((try refine wO ?_) <;> (repeat' (refine g_split rfl (by decide) rfl (by decide) ?_ ?_ <;> intro hc <;> (try refine wO ?_))) <;> (try ((refine o_callH (pright _ a l m cap size slide agg snk feed hm hcs hl) (by first | exact True.intro | (show _ < _; decide)) rfl rfl (fun _ _ => ?_); rw [hp]))) <;> (try refine wO ?_) <;> (repeat' (refine g_split rfl (by decide) rfl (by decide) ?_ ?_ <;> intro hc <;> (try refine wO ?_))) <;> (try (refine wK ?_; intro _)))) | (refine rG 3 [0, 2, 4, 7] ?_; ((try (refine wK ?_; intro _)))) | (refine rG 4 [0, 2, 4, 7, 8] ?_; ((try (refine wK ?_; intro _)))) | (refine rG 5 [6] ?_; ((try refine wO ?_) <;> (try ((refine o_callH (in_ 49 (·.1) _ id snk b ss ms caps fromS hms hds hls) (by first | exact True.intro | (show _ < _; decide)) rfl rfl (fun _ _ => ?_); rw [hi]))) <;> (try refine wO ?_) <;> (repeat' (refine g_split rfl (by decide) rfl (by decide) ?_ ?_ <;> intro hc <;> (try refine wO ?_))) <;> (try (skip)) <;> (try (refine wK ?_; intro _)))) | refine wC ?_ | (refine ex_split rfl ?_ ?_ <;> intro hc))
          exact fin (.inr rfl) () (resl1 rfl (rv_tmp rfl)) trivial ent_take
      | false =>
        have em : mayF id l size slide agg snk feed ss = false := by unfold mayF; rw [hp, Bool.and_false]; rfl
        rw [em]
        refine spec_of Tryz.func27 rfl Tryz.ntmps27 rfl ?_
        repeat' (first | (refine rG 0 [0, 2, 4] ?_; ((try ((refine o_box (by decide) (v := .agg (List.toArray _)) rfl rfl (fun _ => ?_)))) <;> (try (refine wK ?_; intro _)))) | (refine rG 1 [0, 2, 4, 19] ?_; ((try refine wO ?_) <;> (repeat' (refine g_split rfl (by decide) rfl (by decide) ?_ ?_ <;> intro hc <;> (try refine wO ?_))) <;> (try ((refine o_callH (pright _ a l m cap size slide agg snk feed hm hcs hl) (by first | exact True.intro | (show _ < _; decide)) rfl rfl (fun _ _ => ?_); rw [hp]))) <;> (try refine wO ?_) <;> (repeat' (refine g_split rfl (by decide) rfl (by decide) ?_ ?_ <;> intro hc <;> (try refine wO ?_))) <;> (try (refine wK ?_; intro _)))) | (refine rG 2 [6] ?_; ((try (refine wK ?_; intro _)))) | refine wC ?_ | (refine ex_split rfl ?_ ?_ <;> intro hc))
        exact fin (.inr rfl) () (resl1 rfl (rv_tmp rfl)) trivial ent_take
    · have d2 : decide (id ≥ 8) = true := decide_eq_true (by omega)
      have em : mayF id l size slide agg snk feed ss = false := by unfold mayF; rw [decide_eq_false h2, Bool.and_false]; rfl
      rw [em]
      refine spec_of Tryz.func27 rfl Tryz.ntmps27 rfl ?_
      repeat' (first | (refine rG 0 [0, 2, 4] ?_; ((try ((refine o_box (by decide) (v := .agg (List.toArray _)) rfl rfl (fun _ => ?_)))) <;> (try (refine wK ?_; intro _)))) | (refine rG 1 [0, 2, 4, 19] ?_; ((try refine wO ?_) <;> (repeat' (refine g_split rfl (by decide) rfl (by decide) ?_ ?_ <;> intro hc <;> (try refine wO ?_))) <;> (try (skip)) <;> (try refine wO ?_) <;> (repeat' (refine g_split rfl (by decide) rfl (by decide) ?_ ?_ <;> intro hc <;> (try refine wO ?_))) <;> (try (refine wK ?_; intro _)))) | (refine rG 2 [6] ?_; ((try (refine wK ?_; intro _)))) | refine wC ?_ | (refine ex_split rfl ?_ ?_ <;> intro hc))
      exact fin (.inr rfl) () (resl1 rfl (rv_tmp rfl)) trivial ent_take
  · have d1 : decide (id < 0) = true := decide_eq_true (by omega)
    have em : mayF id l size slide agg snk feed ss = false := by unfold mayF; rw [decide_eq_false h1]; rfl
    rw [em]
    refine spec_of Tryz.func27 rfl Tryz.ntmps27 rfl ?_
    repeat' (first | (refine rG 0 [0, 2, 4] ?_; ((try ((refine o_box (by decide) (v := .agg (List.toArray _)) rfl rfl (fun _ => ?_)))) <;> (try (refine wK ?_; intro _)))) | (refine rG 1 [0, 2, 4, 19] ?_; ((try refine wO ?_) <;> (repeat' (refine g_split rfl (by decide) rfl (by decide) ?_ ?_ <;> intro hc <;> (try refine wO ?_))) <;> (try (skip)) <;> (try refine wO ?_) <;> (repeat' (refine g_split rfl (by decide) rfl (by decide) ?_ ?_ <;> intro hc <;> (try refine wO ?_))) <;> (try (refine wK ?_; intro _)))) | (refine rG 2 [6] ?_; ((try (refine wK ?_; intro _)))) | refine wC ?_ | (refine ex_split rfl ?_ ?_ <;> intro hc))
    exact fin (.inr rfl) () (resl1 rfl (rv_tmp rfl)) trivial ent_take
/-- The greatest label that a tenant's rows may have. -/
def ofF (id : Int) (l : List (Int × Int)) (size slide agg snk feed : Int) (ss : List Sk) : BitVec 64 :=
  if mayF id l size slide agg snk feed ss then (if feed == -1 then bt id else bt id ||| ((ss[feed.toNat]?).map (·.1)).getD 0) else 0
theorem may_feed {id : Int} {l : List (Int × Int)} {size slide agg snk feed : Int} {ss : List Sk} (h : mayF id l size slide agg snk feed ss = true) (hf : feed ≠ -1) : 0 ≤ feed ∧ feed.toNat < ss.length := by
  unfold mayF at h
  rw [Bool.and_eq_true] at h
  have h2 := h.2
  unfold inF at h2
  rw [if_neg (by simpa using hf)] at h2
  split at h2
  · rename_i hd
    have := of_decide_eq_true hd
    refine ⟨this, ?_⟩
    cases hg : ss[feed.toNat]? with
    | none => rw [hg] at h2; cases h2
    | some s => exact (List.getElem?_eq_some_iff.1 hg).1
  · cases h2
set_option maxHeartbeats 4000000 in
theorem of2 (H : HP) (id : Int) (a b : Option Addr) (l : List (Int × Int)) (ss : List Sk) (m cap ms caps : Nat) (size slide agg snk feed : Int) {cs ds : List Value} [hr : RdC H a cs] [hq : RdC H b ds] (hm : m = l.length) (hcs : cs = l.flatMap oc) (hl : l.length ≤ 1000000) (hms : ms = ss.length) (hds : ds = ss.flatMap sc) (hls : ss.length ≤ 1000000) :
    Spec Tryz.prog 28 [.int .i64 id, .agg #[.slice a m cap, .int .i64 size, .int .i64 slide, .int .i64 agg, .int .i64 snk, .int .i64 feed], .slice b ms caps] H (X := Unit) (fun _ => .int .u64 (U (ofF id l size slide agg snk feed ss))) (fun _ => True) (fun _ => H) := by
  unfold ofF
  cases hp : mayF id l size slide agg snk feed ss with
  | false =>
    rw [if_neg (by decide)]
    refine spec_of Tryz.func28 rfl Tryz.ntmps28 rfl ?_
    repeat' (first | (refine rG 0 [0, 2, 4] ?_; ((try ((refine o_box (by decide) (v := .agg (List.toArray _)) rfl rfl (fun _ => ?_)))) <;> (try (refine wK ?_; intro _)))) | (refine rG 1 [0, 2, 4, 7] ?_; ((try refine wO ?_) <;> (try ((refine o_callH (may _ id a b l ss m cap ms caps size slide agg snk feed hm hcs hl hms hds hls) (by first | exact True.intro | (show _ < _; decide)) rfl rfl (fun _ _ => ?_); rw [hp]))) <;> (try (refine wK ?_; intro _)))) | (refine rG 2 [6] ?_; ((try (refine wK ?_; intro _)))) | refine wC ?_ | (refine ex_split rfl ?_ ?_ <;> intro hc))
    exact fin (.inr rfl) () (resl1 rfl (rv_tmp rfl)) trivial ent_take
  | true =>
    rw [if_pos rfl]
    by_cases hf : feed = -1
    · have d1 : (feed == -1) = true := by rw [hf]; rfl
      rw [if_pos d1]
      refine spec_of Tryz.func28 rfl Tryz.ntmps28 rfl ?_
      repeat' (first | (refine rG 0 [0, 2, 4] ?_; ((try ((refine o_box (by decide) (v := .agg (List.toArray _)) rfl rfl (fun _ => ?_)))) <;> (try (refine wK ?_; intro _)))) | (refine rG 1 [0, 2, 4, 7] ?_; ((try refine wO ?_) <;> (try ((refine o_callH (may _ id a b l ss m cap ms caps size slide agg snk feed hm hcs hl hms hds hls) (by first | exact True.intro | (show _ < _; decide)) rfl rfl (fun _ _ => ?_); rw [hp]))) <;> (try (refine wK ?_; intro _)))) | (refine rG 3 [0, 2, 4, 13] ?_; ((try (refine wK ?_; intro _)))) | (refine rG 4 [6] ?_; ((try refine wO ?_) <;> (try ((refine o_buildSlice (by decide) rfl rfl rfl (fun _ => ?_)))) <;> (try (refine o_callH (ofE _ _ [id] _ _ _ rfl rfl (by simp) (off1 _)) (by first | exact True.intro | (show _ < _; decide)) rfl rfl (fun _ _ => ?_))) <;> (try (refine wK ?_; intro _)))) | refine wC ?_ | (refine ex_split rfl ?_ ?_ <;> intro hc))
      exact fin (.inr rfl) () (resl1 rfl (rv_tmp rfl)) trivial ent_take
    · have d1 : (feed == -1) = false := by simpa using hf
      rw [if_neg (by rw [d1]; decide)]
      obtain ⟨h0, hlt⟩ := may_feed hp hf
      have h1 : feed < (ms : Int) := by omega
      rw [List.getElem?_eq_getElem hlt]
      refine spec_of Tryz.func28 rfl Tryz.ntmps28 rfl ?_
      repeat' (first | (refine rG 0 [0, 2, 4] ?_; ((try ((refine o_box (by decide) (v := .agg (List.toArray _)) rfl rfl (fun _ => ?_)))) <;> (try (refine wK ?_; intro _)))) | (refine rG 1 [0, 2, 4, 7] ?_; ((try refine wO ?_) <;> (try ((refine o_callH (may _ id a b l ss m cap ms caps size slide agg snk feed hm hcs hl hms hds hls) (by first | exact True.intro | (show _ < _; decide)) rfl rfl (fun _ _ => ?_); rw [hp]))) <;> (try (refine wK ?_; intro _)))) | (refine rG 3 [0, 2, 4, 13] ?_; ((try (refine wK ?_; intro _)))) | refine wC ?_ | (refine ex_split rfl ?_ ?_ <;> intro hc))
      subst hms; subst hds
      refine Ex.rd_some (a := b) (l := ss.flatMap sc) (by rw [flat_len sc_len]; omega) (fun ad ha => ?_)
      subst ha
      have hv : (ss.flatMap sc)[feed.toNat * 5 + 0]? = some (.int .u64 (U ss[feed.toNat].1)) := by
        have h2 := sub_flat sc_len ss feed.toNat hlt
        unfold sub at h2
        split at h2
        · have h3 := congrArg (fun z => z[0]?) (Option.some.inj h2)
          simp only [List.getElem?_take, List.getElem?_drop] at h3
          rw [if_pos (by decide)] at h3
          rw [h3]; rfl
        · cases h2
      repeat' (first | (refine rA 5 [6] 12 ?_; ((refine aM 0 ?_) <;> ((refine aM 3 ?_) <;> ((first | refine aF 4 ?_ | refine aFS 4 ?_) <;> (refine oa_two 1 5 (by kernel_rfl) rfl rfl rfl rfl ?_ ?_ <;> first | ((((refine o_buildSlice (by decide) rfl rfl rfl (fun _ => ?_))) <;> (refine oa_nil ?_) <;> (refine oa_two 2 5 (by kernel_rfl) rfl rfl rfl rfl ?_ ?_ <;> first | (((refine o_callH (ofE _ _ [id] _ _ _ rfl rfl (by simp) (off1 _)) (by first | exact True.intro | (show _ < _; decide)) rfl rfl (fun _ _ => ?_)) <;> (refine oa_nil ?_) <;> ((refine aO 5 ?_ <;> (refine wO ?_) <;> refine oa_nil ?_) <;> ((refine aJS 6 ?_) <;> ((first | refine aF 7 ?_ | refine aFS 7 ?_) <;> ((refine aO 8 ?_ <;> (refine wO ?_) <;> refine oa_nil ?_) <;> ((refine aO 9 ?_ <;> ((refine o_buildSlice (by decide) rfl rfl rfl (fun _ => ?_))) <;> refine oa_nil ?_) <;> ((refine aO 10 ?_ <;> (refine o_callH (join_ _ _ [bt id, ss[feed.toNat].1] _ _ rfl rfl (by simp)) (by first | exact True.intro | (show _ < _; decide)) rfl rfl (fun _ _ => ?_)) <;> refine oa_nil ?_) <;> ((refine aA 11 ?_) <;> ((refine dK ?_; intro _))))))))))) | (((first | refine o_load_s (v := .int _ _) (by decide) rfl rfl ?_ | refine o_load_s (by decide) rfl rfl ?_ | refine o_load_r (by decide) rfl (by assumption) ?_ | refine o_load_r (v := .int _ _) (by decide) rfl rfl ?_) <;> (refine oa_nil ?_) <;> ((refine aJS 6 ?_) <;> ((first | refine aF 7 ?_ | refine aFS 7 ?_) <;> (refine oa_two 2 8 (by kernel_rfl) rfl rfl rfl rfl ?_ ?_ <;> first | (((refine o_callH (ofE _ _ [id] _ _ _ rfl rfl (by simp) (off1 _)) (by first | exact True.intro | (show _ < _; decide)) rfl rfl (fun _ _ => ?_)) <;> (refine oa_nil ?_) <;> ((refine aO 8 ?_ <;> (refine wO ?_) <;> refine oa_nil ?_) <;> ((refine aO 9 ?_ <;> ((refine o_buildSlice (by decide) rfl rfl rfl (fun _ => ?_))) <;> refine oa_nil ?_) <;> ((refine aO 10 ?_ <;> (refine o_callH (join_ _ _ [bt id, ss[feed.toNat].1] _ _ rfl rfl (by simp)) (by first | exact True.intro | (show _ < _; decide)) rfl rfl (fun _ _ => ?_)) <;> refine oa_nil ?_) <;> ((refine aA 11 ?_) <;> ((refine dK ?_; intro _)))))))) | (((first | refine o_load_s (v := .int _ _) (by decide) rfl rfl ?_ | refine o_load_s (by decide) rfl rfl ?_ | refine o_load_r (by decide) rfl (by assumption) ?_ | refine o_load_r (v := .int _ _) (by decide) rfl rfl ?_) <;> (refine oa_nil ?_) <;> ((refine aO 2 ?_ <;> (refine o_callH (ofE _ _ [id] _ _ _ rfl rfl (by simp) (off1 _)) (by first | exact True.intro | (show _ < _; decide)) rfl rfl (fun _ _ => ?_)) <;> refine oa_nil ?_) <;> ((refine aO 9 ?_ <;> ((refine o_buildSlice (by decide) rfl rfl rfl (fun _ => ?_))) <;> refine oa_nil ?_) <;> ((refine aO 10 ?_ <;> (refine o_callH (join_ _ _ [bt id, ss[feed.toNat].1] _ _ rfl rfl (by simp)) (by first | exact True.intro | (show _ < _; decide)) rfl rfl (fun _ _ => ?_)) <;> refine oa_nil ?_) <;> ((refine aA 11 ?_) <;> ((refine dK ?_; intro _)))))))))))))))) | (((first | refine o_load_s (v := .int _ _) (by decide) rfl rfl ?_ | refine o_load_s (by decide) rfl rfl ?_ | refine o_load_r (by decide) rfl (by assumption) ?_ | refine o_load_r (v := .int _ _) (by decide) rfl rfl ?_) <;> (refine oa_nil ?_) <;> ((refine aJS 6 ?_) <;> ((first | refine aF 7 ?_ | refine aFS 7 ?_) <;> (refine oa_two 1 8 (by kernel_rfl) rfl rfl rfl rfl ?_ ?_ <;> first | ((((refine o_buildSlice (by decide) rfl rfl rfl (fun _ => ?_))) <;> (refine oa_nil ?_) <;> (refine oa_two 2 8 (by kernel_rfl) rfl rfl rfl rfl ?_ ?_ <;> first | (((refine o_callH (ofE _ _ [id] _ _ _ rfl rfl (by simp) (off1 _)) (by first | exact True.intro | (show _ < _; decide)) rfl rfl (fun _ _ => ?_)) <;> (refine oa_nil ?_) <;> ((refine aO 8 ?_ <;> (refine wO ?_) <;> refine oa_nil ?_) <;> ((refine aO 9 ?_ <;> ((refine o_buildSlice (by decide) rfl rfl rfl (fun _ => ?_))) <;> refine oa_nil ?_) <;> ((refine aO 10 ?_ <;> (refine o_callH (join_ _ _ [bt id, ss[feed.toNat].1] _ _ rfl rfl (by simp)) (by first | exact True.intro | (show _ < _; decide)) rfl rfl (fun _ _ => ?_)) <;> refine oa_nil ?_) <;> ((refine aA 11 ?_) <;> ((refine dK ?_; intro _)))))))) | (((first | refine o_load_s (v := .int _ _) (by decide) rfl rfl ?_ | refine o_load_s (by decide) rfl rfl ?_ | refine o_load_r (by decide) rfl (by assumption) ?_ | refine o_load_r (v := .int _ _) (by decide) rfl rfl ?_) <;> (refine oa_nil ?_) <;> ((refine aO 2 ?_ <;> (refine o_callH (ofE _ _ [id] _ _ _ rfl rfl (by simp) (off1 _)) (by first | exact True.intro | (show _ < _; decide)) rfl rfl (fun _ _ => ?_)) <;> refine oa_nil ?_) <;> ((refine aO 9 ?_ <;> ((refine o_buildSlice (by decide) rfl rfl rfl (fun _ => ?_))) <;> refine oa_nil ?_) <;> ((refine aO 10 ?_ <;> (refine o_callH (join_ _ _ [bt id, ss[feed.toNat].1] _ _ rfl rfl (by simp)) (by first | exact True.intro | (show _ < _; decide)) rfl rfl (fun _ _ => ?_)) <;> refine oa_nil ?_) <;> ((refine aA 11 ?_) <;> ((refine dK ?_; intro _))))))))))) | (((first | refine o_load_s (v := .int _ _) (by decide) rfl rfl ?_ | refine o_load_s (by decide) rfl rfl ?_ | refine o_load_r (by decide) rfl (by assumption) ?_ | refine o_load_r (v := .int _ _) (by decide) rfl rfl ?_) <;> (refine oa_nil ?_) <;> ((refine aO 1 ?_ <;> ((refine o_buildSlice (by decide) rfl rfl rfl (fun _ => ?_))) <;> refine oa_nil ?_) <;> ((refine aO 2 ?_ <;> (refine o_callH (ofE _ _ [id] _ _ _ rfl rfl (by simp) (off1 _)) (by first | exact True.intro | (show _ < _; decide)) rfl rfl (fun _ _ => ?_)) <;> refine oa_nil ?_) <;> ((refine aO 9 ?_ <;> ((refine o_buildSlice (by decide) rfl rfl rfl (fun _ => ?_))) <;> refine oa_nil ?_) <;> ((refine aO 10 ?_ <;> (refine o_callH (join_ _ _ [bt id, ss[feed.toNat].1] _ _ rfl rfl (by simp)) (by first | exact True.intro | (show _ < _; decide)) rfl rfl (fun _ _ => ?_)) <;> refine oa_nil ?_) <;> ((refine aA 11 ?_) <;> ((refine dK ?_; intro _))))))))))))))))))) | refine wC ?_ | (refine ex_split rfl ?_ ?_ <;> intro hc))
      all_goals rw [jn2e]
      all_goals exact fin (.inr rfl) () (resl1 rfl (rv_tmp rfl)) trivial ent_take
end Go.Proofs.YtcelailgedndnaaGreatS.R
namespace Go.Proofs.YtcelailgedndnaaGreatS
open Go.RowKit
set_option linter.unusedVariables false
set_option linter.unusedSimpArgs false
def tmax : Int := 1099511627776
def wnc (size slide : Int) : Nat := ((size + slide - 1).tdiv slide).toNat
def stF (time size slide : Int) : Nat → List Int
  | 0 => []
  | i + 1 => (if decide (time - time.tmod slide - (i : Int) * slide ≥ 0) && decide (time - time.tmod slide - (i : Int) * slide > time - size) then [time - time.tmod slide - (i : Int) * slide] else []) ++ stF time size slide i
def starts (time size slide : Int) : List Int :=
  if R.wr size slide && decide (0 ≤ time) && decide (time ≤ tmax) then stF time size slide (wnc size slide) else []
theorem stF_len (time size slide : Int) : ∀ i, (stF time size slide i).length ≤ i
  | 0 => Nat.le_refl _
  | i + 1 => by
    have := stF_len time size slide i
    unfold stF
    rw [List.length_append]
    split <;> simp <;> omega
theorem wr_bd {size slide : Int} (h : R.wr size slide = true) : 1 ≤ slide ∧ slide ≤ size ∧ size ≤ 1048576 ∧ wnc size slide ≤ 8 ∧ 1 ≤ wnc size slide ∧ IntKind.i64.wrap ((IntKind.i64.wrap (IntKind.i64.wrap (size + slide) - 1)).tdiv slide) = (wnc size slide : Int) := by
  unfold R.wr at h
  simp only [Bool.and_eq_true, decide_eq_true_eq] at h
  obtain ⟨⟨⟨h1, h2⟩, h3⟩, h4⟩ := h
  have e5 : IntKind.i64.wrap (IntKind.i64.wrap (size + slide) - 1) = size + slide - 1 := by rw [IntKind.wrap_i64, IntKind.wrap_i64]; omega
  rw [e5] at h4 ⊢
  have q0 : 0 ≤ (size + slide - 1).tdiv slide := Int.tdiv_nonneg (by omega) (by omega)
  have q2 : 1 ≤ (size + slide - 1).tdiv slide := by
    rw [Int.tdiv_eq_ediv_of_nonneg (by omega)]
    exact Int.le_ediv_of_mul_le (by omega) (by omega)
  have q1 : (size + slide - 1).tdiv slide ≤ size + slide - 1 := by
    rw [Int.tdiv_eq_ediv_of_nonneg (by omega)]
    exact Int.ediv_le_self _ (by omega)
  have e6 : IntKind.i64.wrap ((size + slide - 1).tdiv slide) = (size + slide - 1).tdiv slide := by rw [IntKind.wrap_i64]; omega
  rw [e6] at h4
  unfold wnc
  rw [e6]
  omega
theorem starts_len (time size slide : Int) : (starts time size slide).length ≤ 8 := by
  unfold starts
  split
  · rename_i h
    simp only [Bool.and_eq_true] at h
    exact Nat.le_trans (stF_len _ _ _ _) (wr_bd h.1.1).2.2.2.1
  · simp
theorem ent_ow0 {el sz : Nat} {H : HP} : Ent H (ow el sz none 0 0 [] * H) := Ent.ow_none el sz H
set_option linter.unusedVariables false
set_option linter.unusedSimpArgs false
attribute [local irreducible] Ops Ex Spec T V QO OA Rn OS
set_option maxHeartbeats 4000000 in
theorem startsS (H : HP) (time size slide : Int) : Spec Tryz.prog 125 [.int .i64 time, .int .i64 size, .int .i64 slide] H (X := Option Addr × Nat) (fun y => .slice y.1 (starts time size slide).length y.2) (fun y => (starts time size slide).length ≤ y.2)
    (fun y => ow 3 1 y.1 (starts time size slide).length y.2 ((starts time size slide).flatMap (cw .i64)) * H) := by
  have hwin := R.winr size slide
  cases hw : R.wr size slide with
  | false =>
    rw [hw] at hwin
    have hs : starts time size slide = [] := by unfold starts; rw [hw]; rfl
    rw [hs]
    refine spec_of Tryz.func125 rfl Tryz.ntmps125 rfl ?_
    repeat' (first | (refine rG 0 [0, 1, 2] ?_; ((try (refine wK ?_; intro _)))) | (refine rG 1 [0, 1, 2, 22] ?_; ((try refine wO ?_) <;> (try (refine o_call hwin (by first | exact True.intro | (show _ < _; decide)) rfl rfl (fun _ _ => ?_))) <;> (try refine wO ?_) <;> (repeat' (refine g_split rfl (by decide) rfl (by decide) ?_ ?_ <;> intro hc <;> (try refine wO ?_))) <;> (try (refine wK ?_; intro _)))) | (refine rG 2 [6] ?_; ((try (refine wK ?_; intro _)))) | refine wC ?_ | (refine ex_split rfl ?_ ?_ <;> intro hc))
    exact fin (.inr rfl) (none, 0) (resl1 rfl (rv_tmp rfl)) (Nat.le_refl _) (Ent.trans (ent_take (A := H)) ent_ow0)
  | true =>
    rw [hw] at hwin
    by_cases h0 : time < 0
    · have hs : starts time size slide = [] := by unfold starts; rw [decide_eq_false (show ¬ 0 ≤ time by omega)]; simp
      have d0 : decide (time < 0) = true := decide_eq_true h0
      rw [hs]
      refine spec_of Tryz.func125 rfl Tryz.ntmps125 rfl ?_
      repeat' (first | (refine rG 0 [0, 1, 2] ?_; ((try (refine wK ?_; intro _)))) | (refine rG 1 [0, 1, 2, 22] ?_; ((try refine wO ?_) <;> (try (refine o_call hwin (by first | exact True.intro | (show _ < _; decide)) rfl rfl (fun _ _ => ?_))) <;> (try refine wO ?_) <;> (repeat' (refine g_split rfl (by decide) rfl (by decide) ?_ ?_ <;> intro hc <;> (try refine wO ?_))) <;> (try (refine wK ?_; intro _)))) | (refine rG 2 [6] ?_; ((try (refine wK ?_; intro _)))) | refine wC ?_ | (refine ex_split rfl ?_ ?_ <;> intro hc))
      exact fin (.inr rfl) (none, 0) (resl1 rfl (rv_tmp rfl)) (Nat.le_refl _) (Ent.trans (ent_take (A := H)) ent_ow0)
    · have d0 : decide (time < 0) = false := decide_eq_false h0
      by_cases h1 : time > 1099511627776
      · have hs : starts time size slide = [] := by unfold starts tmax; rw [decide_eq_false (show ¬ time ≤ 1099511627776 by omega)]; simp
        have d1 : decide (time > 1099511627776) = true := decide_eq_true h1
        rw [hs]
        refine spec_of Tryz.func125 rfl Tryz.ntmps125 rfl ?_
        repeat' (first | (refine rG 0 [0, 1, 2] ?_; ((try (refine wK ?_; intro _)))) | (refine rG 1 [0, 1, 2, 22] ?_; ((try refine wO ?_) <;> (try (refine o_call hwin (by first | exact True.intro | (show _ < _; decide)) rfl rfl (fun _ _ => ?_))) <;> (try refine wO ?_) <;> (repeat' (refine g_split rfl (by decide) rfl (by decide) ?_ ?_ <;> intro hc <;> (try refine wO ?_))) <;> (try (refine wK ?_; intro _)))) | (refine rG 2 [6] ?_; ((try (refine wK ?_; intro _)))) | refine wC ?_ | (refine ex_split rfl ?_ ?_ <;> intro hc))
        exact fin (.inr rfl) (none, 0) (resl1 rfl (rv_tmp rfl)) (Nat.le_refl _) (Ent.trans (ent_take (A := H)) ent_ow0)
      · have d1 : decide (time > 1099511627776) = false := decide_eq_false h1
        have hs : starts time size slide = stF time size slide (wnc size slide) := by unfold starts tmax; rw [hw, decide_eq_true (show 0 ≤ time by omega), decide_eq_true (show time ≤ 1099511627776 by omega)]; rfl
        obtain ⟨b1, b2, b3, b4, b5, b6⟩ := wr_bd hw
        have hmost := R.most size slide (by omega)
        rw [b6] at hmost
        rw [hs]
        have hlen := stF_len time size slide (wnc size slide)
        have m0 := Int.tmod_nonneg slide (show 0 ≤ time by omega)
        have m1 := Int.tmod_lt_of_pos time (show 0 < slide by omega)
        have m2 : time.tmod slide ≤ time := by
          by_cases h : time < slide
          · rw [Int.tmod_eq_of_lt (by omega) h]; exact Int.le_refl _
          · omega
        have hne : slide ≠ 0 := by omega
        have el : IntKind.i64.wrap (time - time.tmod slide) = time - time.tmod slide := by rw [IntKind.wrap_i64]; omega
        have en : IntKind.i64.wrap (((wnc size slide : Nat) : Int) - 1) = ((wnc size slide : Nat) : Int) - 1 := by rw [IntKind.wrap_i64]; omega
        have es : IntKind.i64.wrap (time - size) = time - size := by rw [IntKind.wrap_i64]; omega
        refine spec_of Tryz.func125 rfl Tryz.ntmps125 rfl ?_
        repeat' (first | (refine rG 0 [0, 1, 2] ?_; ((try (refine wK ?_; intro _)))) | (refine rG 1 [0, 1, 2, 22] ?_; ((try refine wO ?_) <;> (try (refine o_call hwin (by first | exact True.intro | (show _ < _; decide)) rfl rfl (fun _ _ => ?_))) <;> (try refine wO ?_) <;> (repeat' (refine g_split rfl (by decide) rfl (by decide) ?_ ?_ <;> intro hc <;> (try refine wO ?_))) <;> (try (refine wK ?_; intro _)))) | (refine rG 3 [0, 1, 2, 7] ?_; ((try (refine wK ?_; intro _)))) | (refine rG 4 [0, 1, 2, 7, 8] ?_; ((try (refine wK ?_; intro _)))) | (refine rG 5 [0, 1, 2, 7, 8, 9] ?_; ((try refine wO ?_) <;> (try (refine o_call hmost (by first | exact True.intro | (show _ < _; decide)) rfl rfl (fun _ _ => ?_))) <;> (try (refine wK ?_; intro _)))) | refine wC ?_ | (refine ex_split rfl ?_ ?_ <;> intro hc))
        rw [el, en]
        refine Ex.ent ?_ (Ent.ow_none 3 1 _)
        have hlen2 : ∀ i, i ≤ wnc size slide → (stF time size slide i).length ≤ 8 := fun i hi => Nat.le_trans (stF_len _ _ _ i) (by omega)
        generalize wnc size slide = W at *
        generalize hLast : time - time.tmod slide = last at *
        refine ex_loopE (fun mm e H' => ∃ g, ∃ i : Nat, ∃ L : List Int, ∃ la, ∃ lc : Nat, e = put (put (put (put (put (put g 0 (.int .i64 time)) 1 (.int .i64 size)) 2 (.int .i64 slide)) 7 (.slice la L.length lc)) 8 (.int .i64 last)) 9 (.int .i64 ((i : Int) - 1)) ∧
          H' = ow 3 1 la L.length lc (L.flatMap (cw .i64)) * H ∧ L ++ stF time size slide i = stF time size slide W ∧ i ≤ W ∧ L.length ≤ lc ∧ mm = i) (m := W) ⟨_, W, [], none, 0, rfl, rfl, rfl, by omega, by simp, rfl⟩ ?_ ?_
        · show Ent _ (ow 3 1 none 0 0 [] * H)
          exact ent_take
        · rintro mm e H' ⟨g, i, L, la, lc, rfl, rfl, hL, hi, hlc, hmm⟩
          subst mm
          have hLl : L.length ≤ 8 := by have := hlen2 W (Nat.le_refl _); rw [← hL, List.length_append] at this; omega
          cases i with
          | zero =>
            have dd : decide (((0 : Nat) : Int) - 1 ≥ 0) = false := rfl
            repeat' (first | (refine rG 6 [0, 1, 2, 7, 8, 9, 33] ?_; ((try (refine wK ?_; intro _)))) | (refine rG 11 [6] ?_; ((try (refine wK ?_; intro _)))) | refine wC ?_ | (refine ex_split rfl ?_ ?_ <;> intro hc))
            have hLe : L = stF time size slide W := by rw [← hL]; simp [stF]
            rw [← hLe]
            exact fin (.inr rfl) (la, lc) (resl1 rfl (rv_tmp rfl)) hlc (Ent.refl _)
          | succ j =>
            have dd : decide (((j + 1 : Nat) : Int) - 1 ≥ 0) = true := decide_eq_true (by omega)
            have bj : (j : Int) * slide ≤ 8 * 1048576 := Int.mul_le_mul (by omega) (by omega) (by omega) (by omega)
            have bj0 : 0 ≤ (j : Int) * slide := Int.mul_nonneg (by omega) (by omega)
            have e39 : IntKind.i64.wrap (last - IntKind.i64.wrap ((((j + 1 : Nat) : Int) - 1) * slide)) = last - (j : Int) * slide := by
              have : (((j + 1 : Nat) : Int) - 1) = (j : Int) := by omega
              rw [this, IntKind.wrap_i64, IntKind.wrap_i64]; omega
            have e35 : IntKind.i64.wrap (((j + 1 : Nat) : Int) - 1 - 1) = (j : Int) - 1 := by rw [IntKind.wrap_i64]; omega
            repeat' (first | (refine rG 6 [0, 1, 2, 7, 8, 9, 33] ?_; ((try (refine wK ?_; intro _)))) | (refine rG 8 [0, 1, 2, 7, 8, 9, 10] ?_; ((try (refine wK ?_; intro _)))) | refine wC ?_ | (refine ex_split rfl ?_ ?_ <;> intro hc))
            rw [e39]
            have hst : stF time size slide (j + 1) = (if decide (last - (j : Int) * slide ≥ 0) && decide (last - (j : Int) * slide > time - size) then [last - (j : Int) * slide] else []) ++ stF time size slide j := by rw [← hLast]; rfl
            rw [hst] at hL
            generalize last - (j : Int) * slide = S at *
            cases c1 : decide (S ≥ 0) with
            | false =>
              rw [c1] at hL
              repeat' (first | (refine rG 9 [0, 1, 2, 7, 8, 9, 10, 49] ?_; ((try refine wO ?_) <;> (repeat' (refine g_split rfl (by decide) rfl (by decide) ?_ ?_ <;> intro hc <;> (try refine wO ?_))) <;> (try (refine wK ?_; intro _)))) | (refine rG 7 [0, 1, 2, 7, 8, 9] ?_; ((try (refine wK ?_; intro _)))) | refine wC ?_ | (refine ex_split rfl ?_ ?_ <;> intro hc))
              rw [e35]
              exact ⟨j, by omega, _, Ent.refl _, _, j, L, la, lc, rfl, rfl, hL, by omega, hlc, rfl⟩
            | true =>
              cases c2 : decide (S > time - size) with
              | false =>
                have c2' : decide (S > IntKind.i64.wrap (time - size)) = false := by rw [es]; exact c2
                rw [c1, c2] at hL
                repeat' (first | (refine rG 9 [0, 1, 2, 7, 8, 9, 10, 49] ?_; ((try refine wO ?_) <;> (repeat' (refine g_split rfl (by decide) rfl (by decide) ?_ ?_ <;> intro hc <;> (try refine wO ?_))) <;> (try (refine wK ?_; intro _)))) | (refine rG 7 [0, 1, 2, 7, 8, 9] ?_; ((try (refine wK ?_; intro _)))) | refine wC ?_ | (refine ex_split rfl ?_ ?_ <;> intro hc))
                rw [e35]
                exact ⟨j, by omega, _, Ent.refl _, _, j, L, la, lc, rfl, rfl, hL, by omega, hlc, rfl⟩
              | true =>
                have c2' : decide (S > IntKind.i64.wrap (time - size)) = true := by rw [es]; exact c2
                rw [c1, c2] at hL
                repeat' (first | (refine rG 9 [0, 1, 2, 7, 8, 9, 10, 49] ?_; ((try refine wO ?_) <;> (repeat' (refine g_split rfl (by decide) rfl (by decide) ?_ ?_ <;> intro hc <;> (try refine wO ?_))) <;> (try (refine wK ?_; intro _)))) | (refine rG 10 [0, 1, 2, 7, 8, 9] ?_; ((try refine wO ?_) <;> (try ((refine o_buildSlice (by decide) rfl rfl rfl (fun _ => ?_)))) <;> (try (refine o_appendT (cells := cw .i64) (xs := L) (ys := [S]) cw_len cw_one (by decide) rfl rfl rfl rfl rfl (by simp only [List.length_cons, List.length_nil]; omega) (by simp only [maxLen, List.length_cons, List.length_nil]; omega) (fun a' cap' hc' => ?_))) <;> (try (refine wK ?_; intro _)))) | refine wC ?_ | (refine ex_split rfl ?_ ?_ <;> intro hc))
                repeat' (first | (refine rG 7 [0, 1, 2, 7, 8, 9] ?_; ((try (refine wK ?_; intro _)))) | refine wC ?_ | (refine ex_split rfl ?_ ?_ <;> intro hc))
                rw [e35]
                exact ⟨j, by omega, _, ent_take, _, j, L ++ [S], a', cap', rfl, rfl, by rw [← hL]; simp, by omega, hc', rfl⟩
end Go.Proofs.YtcelailgedndnaaGreatS
namespace Go.Proofs.YtcelailgedndnaaGreatS
open Go.RowKit
set_option linter.unusedVariables false
set_option linter.unusedSimpArgs false
set_option linter.unusedVariables false
set_option linter.unusedSimpArgs false
attribute [local irreducible] Ops Ex Spec T V QO OA Rn
set_option maxHeartbeats 40000000 in
theorem give (b : Nat) (k : Int) (p : Pt) (t) (R : HP) (s : Sk) (tn : Int) (a : Option Addr) (l : List Rw) (m cap : Nat) {cs : List Value} [hr : RdC R a cs] (hm : m = l.length) (hcs : cs = l.flatMap rwc) (hl : l.length ≤ 1000000) :
    Spec Tryz.prog 119 [.pointer (some ⟨b, 0, none⟩), .agg (sc s).toArray, .int .i64 tn, .slice a m cap] (cl true b (pcl k p) t (0, 0) * R) (X := Unit) (fun _ => .int .i64 (gn s.1 tn l : Int)) (fun _ => True) (fun _ => cl true b (pcl k (gv s.1 tn k p l)) t (0, 0) * R) := by
  subst hm; subst hcs
  refine spec_of Tryz.func119 rfl Tryz.ntmps119 rfl ?_
  repeat' (first | (refine rG 0 [0, 2, 3, 5] ?_; ((try ((refine o_box (by decide) (v := .agg (List.toArray _)) rfl rfl (fun b5 => ?_)))) <;> (try (refine wK ?_; intro _)))) | (refine rG 1 [0, 2, 3, 5, 9] ?_; ((try (refine wK ?_; intro _)))) | (refine rG 2 [0, 2, 5, 9, 12, 13, 14] ?_; ((try (refine wK ?_; intro _)))) | refine wC ?_ | (refine ex_split rfl ?_ ?_ <;> intro hc))
  refine ex_loopE (fun mm e H' => ∃ g, ∃ i : Nat, e = put (put (put (put (put (put (put g 0 (.pointer (some ⟨b, 0, none⟩))) 2 (.int .i64 tn)) 5 (.pointer (some ⟨b5, 0, none⟩))) 9 (.int .i64 (gn s.1 tn (l.take i) : Int))) 12 (.slice a l.length cap)) 13 (.int .i64 (l.length : Int))) 14 (.int .i64 (i : Int)) ∧
    H' = cl true b5 (sc s) 74 (0, 0) * (cl true b (pcl k (gv s.1 tn k p (l.take i))) t (0, 0) * R) ∧ i ≤ l.length ∧ mm = l.length - i) (m := l.length) ⟨_, 0, rfl, rfl, by omega, by omega⟩ ?_ ?_
  · exact Ent.ofEq rfl
  · rintro mm e H' ⟨g, i, rfl, rfl, hi, rfl⟩
    by_cases hlt : i < l.length
    · have hd : decide ((i : Int) < (l.length : Int)) = true := by simp; omega
      have h0 : 0 ≤ (i : Int) := by omega
      have h1 : (i : Int) < (l.length : Int) := by omega
      refine Ex.rd_some (a := a) (l := l.flatMap rwc) (by rw [flat_len rwc_len]; omega) (fun ad ha => ?_)
      subst ha
      have hv : sub (l.flatMap rwc) ((i : Int).toNat * 5) 5 = some (rwc l[i]) := by rw [Int.toNat_natCast]; exact sub_flat rwc_len l i hlt
      have ei : IntKind.i64.wrap ((i : Int) + 1) = ((i + 1 : Nat) : Int) := by rw [IntKind.wrap_i64]; omega
      have hgn := gn_take s.1 tn l i hlt
      have hgv := gv_take s.1 tn k p l i hlt
      have hle := gn_le s.1 tn (l.take i)
      have hlt2 : (l.take i).length = i := by rw [List.length_take]; omega
      generalize gv s.1 tn k p (l.take i) = q at *
      obtain ⟨c, x, w⟩ := q
      cases hh : hs s.1 tn <;> cases hb : bl l[i].2.2.2.2 s.1
      all_goals
        unfold g1 tkn at hgv
        unfold tkn at hgn
        rw [hh, hb] at hgv hgn
      · rw [if_neg (by decide)] at hgv hgn
        repeat' (first | (refine rG 3 [0, 2, 5, 9, 12, 13, 14, 15] ?_; ((try (refine wK ?_; intro _)))) | (refine rG 4 [0, 2, 5, 9, 11, 12, 13, 14] ?_; ((try refine wO ?_) <;> (try ((refine o_alloc_a (by decide) (fun _ => ?_)))) <;> (try (refine wK ?_; intro _)))) | (refine rG 5 [0, 2, 5, 9, 11, 12, 13, 14, 28] ?_; ((try refine wO ?_) <;> (try (refine o_call (hasV hh) (by first | exact True.intro | (show _ < _; decide)) rfl rfl (fun _ _ => ?_))) <;> (try refine wO ?_) <;> (repeat' (refine g_split rfl (by decide) rfl (by decide) ?_ ?_ <;> intro hc <;> (try refine wO ?_))) <;> (try (skip)) <;> (try refine wO ?_) <;> (repeat' (refine g_split rfl (by decide) rfl (by decide) ?_ ?_ <;> intro hc <;> (try refine wO ?_))) <;> (try (refine wK ?_; intro _)))) | (refine rG 9 [0, 2, 5, 9, 12, 13, 14] ?_; ((try (refine wK ?_; intro _)))) | refine wC ?_ | (refine ex_split rfl ?_ ?_ <;> intro hc))
        rw [ei]
        refine ⟨l.length - (i + 1), by omega, _, ?_, _, i + 1, by rw [hgn]; rfl, rfl, by omega, rfl⟩
        rw [hgv]; exact ent_take
      · rw [if_neg (by decide)] at hgv hgn
        repeat' (first | (refine rG 3 [0, 2, 5, 9, 12, 13, 14, 15] ?_; ((try (refine wK ?_; intro _)))) | (refine rG 4 [0, 2, 5, 9, 11, 12, 13, 14] ?_; ((try refine wO ?_) <;> (try ((refine o_alloc_a (by decide) (fun _ => ?_)))) <;> (try (refine wK ?_; intro _)))) | (refine rG 5 [0, 2, 5, 9, 11, 12, 13, 14, 28] ?_; ((try refine wO ?_) <;> (try (refine o_call (hasV hh) (by first | exact True.intro | (show _ < _; decide)) rfl rfl (fun _ _ => ?_))) <;> (try refine wO ?_) <;> (repeat' (refine g_split rfl (by decide) rfl (by decide) ?_ ?_ <;> intro hc <;> (try refine wO ?_))) <;> (try (skip)) <;> (try refine wO ?_) <;> (repeat' (refine g_split rfl (by decide) rfl (by decide) ?_ ?_ <;> intro hc <;> (try refine wO ?_))) <;> (try (refine wK ?_; intro _)))) | (refine rG 9 [0, 2, 5, 9, 12, 13, 14] ?_; ((try (refine wK ?_; intro _)))) | refine wC ?_ | (refine ex_split rfl ?_ ?_ <;> intro hc))
        rw [ei]
        refine ⟨l.length - (i + 1), by omega, _, ?_, _, i + 1, by rw [hgn]; rfl, rfl, by omega, rfl⟩
        rw [hgv]; exact ent_take
      · rw [if_neg (by decide)] at hgv hgn
        repeat' (first | (refine rG 3 [0, 2, 5, 9, 12, 13, 14, 15] ?_; ((try (refine wK ?_; intro _)))) | (refine rG 4 [0, 2, 5, 9, 11, 12, 13, 14] ?_; ((try refine wO ?_) <;> (try ((refine o_alloc_a (by decide) (fun _ => ?_)))) <;> (try (refine wK ?_; intro _)))) | (refine rG 5 [0, 2, 5, 9, 11, 12, 13, 14, 28] ?_; ((try refine wO ?_) <;> (try (refine o_call (hasV hh) (by first | exact True.intro | (show _ < _; decide)) rfl rfl (fun _ _ => ?_))) <;> (try refine wO ?_) <;> (repeat' (refine g_split rfl (by decide) rfl (by decide) ?_ ?_ <;> intro hc <;> (try refine wO ?_))) <;> (try (refine o_call (gives l[i] s hb) (by first | exact True.intro | (show _ < _; decide)) rfl rfl (fun _ _ => ?_))) <;> (try refine wO ?_) <;> (repeat' (refine g_split rfl (by decide) rfl (by decide) ?_ ?_ <;> intro hc <;> (try refine wO ?_))) <;> (try (refine wK ?_; intro _)))) | (refine rG 9 [0, 2, 5, 9, 12, 13, 14] ?_; ((try (refine wK ?_; intro _)))) | refine wC ?_ | (refine ex_split rfl ?_ ?_ <;> intro hc))
        rw [ei]
        refine ⟨l.length - (i + 1), by omega, _, ?_, _, i + 1, by rw [hgn]; rfl, rfl, by omega, rfl⟩
        rw [hgv]; exact ent_take
      · rw [if_pos (by decide)] at hgv hgn
        have en : IntKind.i64.wrap ((gn s.1 tn (l.take i) : Int) + 1) = ((gn s.1 tn (l.take (i + 1)) : Nat) : Int) := by rw [hgn, IntKind.wrap_i64]; omega
        repeat' (first | (refine rG 3 [0, 2, 5, 9, 12, 13, 14, 15] ?_; ((try (refine wK ?_; intro _)))) | (refine rG 4 [0, 2, 5, 9, 11, 12, 13, 14] ?_; ((try refine wO ?_) <;> (try ((refine o_alloc_a (by decide) (fun _ => ?_)))) <;> (try (refine wK ?_; intro _)))) | (refine rG 5 [0, 2, 5, 9, 11, 12, 13, 14, 28] ?_; ((try refine wO ?_) <;> (try (refine o_call (hasV hh) (by first | exact True.intro | (show _ < _; decide)) rfl rfl (fun _ _ => ?_))) <;> (try refine wO ?_) <;> (repeat' (refine g_split rfl (by decide) rfl (by decide) ?_ ?_ <;> intro hc <;> (try refine wO ?_))) <;> (try (refine o_call (gives l[i] s hb) (by first | exact True.intro | (show _ < _; decide)) rfl rfl (fun _ _ => ?_))) <;> (try refine wO ?_) <;> (repeat' (refine g_split rfl (by decide) rfl (by decide) ?_ ?_ <;> intro hc <;> (try refine wO ?_))) <;> (try (refine wK ?_; intro _)))) | refine wC ?_ | (refine ex_split rfl ?_ ?_ <;> intro hc))
        repeat' (first | (refine rA 6 [0, 2, 5, 9, 12, 13, 14] 7 ?_; ((refine aM 0 ?_) <;> ((refine aN 1 ?_) <;> ((refine aF 2 ?_) <;> ((refine aF 3 ?_) <;> ((refine aO 4 ?_ <;> (refine wO ?_) <;> refine oa_nil ?_) <;> ((refine aO 5 ?_ <;> ((refine o_buildSlice (by decide) rfl rfl rfl (fun _ => ?_))) <;> refine oa_nil ?_) <;> ((refine aO 6 ?_ <;> (refine o_callBR (by first | exact True.intro | (show _ < _; decide)) rfl rfl rfl (add1 _ _ _ _ _ _ _ _ _ _) (fun _ _ => ?_)) <;> refine oa_nil ?_) <;> ((refine dK ?_; intro _)))))))))) | (refine rA 7 [0, 2, 5, 9, 12, 13, 14] 13 ?_; ((refine aM 0 ?_) <;> ((refine aM 1 ?_) <;> ((refine aN 2 ?_) <;> ((refine aF 3 ?_) <;> ((refine aM 5 ?_) <;> (refine oa_two 4 6 (by kernel_rfl) rfl rfl rfl rfl ?_ ?_ <;> first | (((first | refine o_load_s (v := .int _ _) (by decide) rfl rfl ?_ | refine o_load_s (by decide) rfl rfl ?_ | refine o_load_r (by decide) rfl (by assumption) ?_ | refine o_load_r (v := .int _ _) (by decide) rfl rfl ?_) <;> (refine oa_nil ?_) <;> ((refine aO 6 ?_ <;> ((refine o_buildSlice (by decide) rfl rfl rfl (fun _ => ?_))) <;> refine oa_nil ?_) <;> ((refine aO 7 ?_ <;> (refine o_callH (ofE _ _ [tn] _ _ _ rfl rfl (by simp) (off1 _)) (by first | exact True.intro | (show _ < _; decide)) rfl rfl (fun _ _ => ?_)) <;> refine oa_nil ?_) <;> ((refine aO 8 ?_ <;> ((refine o_buildSlice (by decide) rfl rfl rfl (fun _ => ?_))) <;> refine oa_nil ?_) <;> ((refine aO 9 ?_ <;> (refine o_callH (join_ _ _ [w, bt tn] _ _ rfl rfl (by simp)) (by first | exact True.intro | (show _ < _; decide)) rfl rfl (fun _ _ => ?_)) <;> refine oa_nil ?_) <;> ((refine aN 10 ?_) <;> ((refine aF 11 ?_) <;> ((refine aO 12 ?_ <;> (refine wO ?_) <;> refine oa_nil ?_) <;> ((refine dK ?_; intro _))))))))))) | ((((refine o_buildSlice (by decide) rfl rfl rfl (fun _ => ?_))) <;> (refine oa_nil ?_) <;> (refine oa_two 4 7 (by kernel_rfl) rfl rfl rfl rfl ?_ ?_ <;> first | (((first | refine o_load_s (v := .int _ _) (by decide) rfl rfl ?_ | refine o_load_s (by decide) rfl rfl ?_ | refine o_load_r (by decide) rfl (by assumption) ?_ | refine o_load_r (v := .int _ _) (by decide) rfl rfl ?_) <;> (refine oa_nil ?_) <;> ((refine aO 7 ?_ <;> (refine o_callH (ofE _ _ [tn] _ _ _ rfl rfl (by simp) (off1 _)) (by first | exact True.intro | (show _ < _; decide)) rfl rfl (fun _ _ => ?_)) <;> refine oa_nil ?_) <;> ((refine aO 8 ?_ <;> ((refine o_buildSlice (by decide) rfl rfl rfl (fun _ => ?_))) <;> refine oa_nil ?_) <;> ((refine aO 9 ?_ <;> (refine o_callH (join_ _ _ [w, bt tn] _ _ rfl rfl (by simp)) (by first | exact True.intro | (show _ < _; decide)) rfl rfl (fun _ _ => ?_)) <;> refine oa_nil ?_) <;> ((refine aN 10 ?_) <;> ((refine aF 11 ?_) <;> ((refine aO 12 ?_ <;> (refine wO ?_) <;> refine oa_nil ?_) <;> ((refine dK ?_; intro _)))))))))) | (((refine o_callH (ofE _ _ [tn] _ _ _ rfl rfl (by simp) (off1 _)) (by first | exact True.intro | (show _ < _; decide)) rfl rfl (fun _ _ => ?_)) <;> (refine oa_nil ?_) <;> ((refine aO 4 ?_ <;> (refine wO ?_) <;> refine oa_nil ?_) <;> ((refine aO 8 ?_ <;> ((refine o_buildSlice (by decide) rfl rfl rfl (fun _ => ?_))) <;> refine oa_nil ?_) <;> ((refine aO 9 ?_ <;> (refine o_callH (join_ _ _ [w, bt tn] _ _ rfl rfl (by simp)) (by first | exact True.intro | (show _ < _; decide)) rfl rfl (fun _ _ => ?_)) <;> refine oa_nil ?_) <;> ((refine aN 10 ?_) <;> ((refine aF 11 ?_) <;> ((refine aO 12 ?_ <;> (refine wO ?_) <;> refine oa_nil ?_) <;> ((refine dK ?_; intro _)))))))))))))))))))) | (refine rG 8 [0, 2, 5, 9, 12, 13, 14] ?_; ((try (refine wK ?_; intro _)))) | (refine rG 9 [0, 2, 5, 9, 12, 13, 14] ?_; ((try (refine wK ?_; intro _)))) | refine wC ?_ | (refine ex_split rfl ?_ ?_ <;> intro hc))
        all_goals (try dsimp only [spl, andThen, Nat.zero_add, Nat.add_zero, Nat.reduceAdd])
        all_goals rw [ei, en, jn2e]
        all_goals
          refine ⟨l.length - (i + 1), by omega, _, ?_, _, i + 1, rfl, rfl, by omega, rfl⟩
          rw [hgv]
          show Ent _ (cl true b5 (sc s) 74 (0, 0) * (cl true b [.int .i64 (IntKind.i64.wrap (c + 1)), .int .i64 k, .int .i64 (tk c k x l[i].2.2.1 1), .int .u64 (U (w ||| bt tn))] t (0, 0) * R))
          exact ent_take
    · have hil : i = l.length := by omega
      subst hil
      have hd : decide ((l.length : Int) < (l.length : Int)) = false := by simp
      rw [List.take_length]
      repeat' (first | (refine rG 3 [0, 2, 5, 9, 12, 13, 14, 15] ?_; ((try (refine wK ?_; intro _)))) | (refine rG 10 [8] ?_; ((try (refine wK ?_; intro _)))) | refine wC ?_ | (refine ex_split rfl ?_ ?_ <;> intro hc))
      exact fin (.inr rfl) () (resl1 rfl (rv_tmp rfl)) trivial ent_take
end Go.Proofs.YtcelailgedndnaaGreatS
namespace Go.Proofs.YtcelailgedndnaaGreatS.R
open Go.Proofs.YtcelailgedndnaaGreatS
open Go.RowKit
set_option linter.unusedVariables false
set_option linter.unusedSimpArgs false
attribute [local irreducible] Ops Ex Spec T V QO OA Rn
theorem U_z : U 0#64 = 0 := rfl
def pass (k n key v : Int) : Bool := if k == 4 then decide (v > n) else if k == 5 then decide (v < n) else if k == 6 then key == n else false
theorem passes (k n t key v lb : Int) : Spec Tryz.prog 135 [.agg #[.int .i64 k, .int .i64 n], .agg #[.int .i64 t, .int .i64 key, .int .i64 v, .int .u64 lb]] 1 (X := Unit) (fun _ => .bool (pass k n key v)) (fun _ => True) (fun _ => 1) := by
  refine spec_of Tryz.func135 rfl Tryz.ntmps135 rfl ?_
  repeat' (first | (refine rG 0 [2, 3] ?_; ((try ((refine o_box (by decide) (v := .agg (List.toArray _)) rfl rfl (fun _ => ?_)))) <;> (try ((refine o_box (by decide) (v := .agg (List.toArray _)) rfl rfl (fun _ => ?_)))) <;> (try (refine wK ?_; intro _)))) | (refine rG 1 [2, 3, 6] ?_; ((try (refine wK ?_; intro _)))) | (refine rG 2 [2, 3, 6, 7] ?_; ((try (refine wK ?_; intro _)))) | (refine rG 3 [4] ?_; ((try (refine wK ?_; intro _)))) | (refine rG 4 [2, 3, 6, 14] ?_; ((try (refine wK ?_; intro _)))) | (refine rG 5 [4] ?_; ((try (refine wK ?_; intro _)))) | (refine rG 6 [2, 3, 21] ?_; ((try (refine wK ?_; intro _)))) | (refine rG 7 [4] ?_; ((try (refine wK ?_; intro _)))) | (refine rG 8 [4] ?_; ((try (refine wK ?_; intro _)))) | refine wC ?_ | (refine ex_split rfl ?_ ?_ <;> intro hc))
  all_goals exact fin (.inr rfl) () (resl1 rfl (rv_tmp (by show Value.bool _ = Value.bool _; simp_all [pass]))) trivial (Ent.toOne _)
abbrev Ev : Type := Int × Int × Int × BitVec 64
def ec (e : Ev) : List Value := [.int .i64 e.1, .int .i64 e.2.1, .int .i64 e.2.2.1, .int .u64 (U e.2.2.2)]
theorem oc_one (x : Int × Int) : ∀ v ∈ oc x, v.oneCell' = true := by intro v hv; simp [oc] at hv; rcases hv with rfl | rfl <;> rfl
def ap (o : Int × Int) (e : Ev) : Ev × Bool :=
  if o.1 == 1 then ((e.1, e.2.1, IntKind.i64.wrap (e.2.2.1 + o.2), e.2.2.2), true)
  else if o.1 == 2 then ((e.1, e.2.1, IntKind.i64.wrap (e.2.2.1 * o.2), e.2.2.2), true)
  else if o.1 == 3 && decide (o.2 ≥ 1) then ((e.1, if decide (e.2.2.1.tmod o.2 < 0) then IntKind.i64.wrap (e.2.2.1.tmod o.2 + o.2) else e.2.2.1.tmod o.2, e.2.2.1, e.2.2.2), true)
  else if pass o.1 o.2 e.2.1 e.2.2.1 then (e, true) else ((0, 0, 0, 0), false)
set_option maxHeartbeats 1000000 in
theorem apply (o : Int × Int) (e : Ev) : Spec Tryz.prog 124 [.agg (oc o).toArray, .agg (ec e).toArray] 1 (X := Unit) (fun _ => .tuple #[.agg (ec (ap o e).1).toArray, .bool (ap o e).2]) (fun _ => True) (fun _ => 1) := by
  obtain ⟨k, n⟩ := o
  obtain ⟨t, key, v, lb⟩ := e
  by_cases h3 : (k == 3) = true ∧ decide (n ≥ 1) = true
  · obtain ⟨hk, hn⟩ := h3
    have hn0 : n ≠ 0 := by have := of_decide_eq_true hn; omega
    have hk1 : (k == 1) = false := by have := eq_of_beq hk; subst this; rfl
    have hk2 : (k == 2) = false := by have := eq_of_beq hk; subst this; rfl
    refine spec_of Tryz.func124 rfl Tryz.ntmps124 rfl ?_
    repeat' (first | (refine rG 0 [2, 3, 4] ?_; ((try ((refine o_box (by decide) (v := .agg (List.toArray _)) rfl rfl (fun _ => ?_)))) <;> (try ((refine o_box (by decide) (v := .agg (List.toArray _)) rfl rfl (fun _ => ?_)))) <;> (try ((refine o_alloc_a (by decide) (fun _ => ?_)))) <;> (try (refine wK ?_; intro _)))) | (refine rG 1 [2, 3, 4, 6] ?_; ((try (refine wK ?_; intro _)))) | (refine rG 2 [3, 4] ?_; ((try (refine wK ?_; intro _)))) | (refine rG 3 [2, 3, 4, 16] ?_; ((try (refine wK ?_; intro _)))) | (refine rG 4 [3, 4] ?_; ((try (refine wK ?_; intro _)))) | (refine rG 5 [2, 3, 4, 26] ?_; ((try refine wO ?_) <;> (repeat' (refine g_split rfl (by decide) rfl (by decide) ?_ ?_ <;> intro hc <;> (try refine wO ?_))) <;> (try (refine wK ?_; intro _)))) | (refine rG 6 [2, 3, 4] ?_; ((try (refine wK ?_; intro _)))) | (refine rG 7 [2, 3, 4, 43] ?_; ((try (refine wK ?_; intro _)))) | (refine rG 8 [3, 4] ?_; ((try (refine wK ?_; intro _)))) | (refine rG 9 [3, 4, 50] ?_; ((try refine wO ?_) <;> (try (refine o_call (passes _ _ _ _ _ _) (by first | exact True.intro | (show _ < _; decide)) rfl rfl (fun _ _ => ?_))) <;> (try (refine wK ?_; intro _)))) | (refine rG 10 [4, 5] ?_; ((try (refine wK ?_; intro _)))) | (refine rG 11 [4, 5] ?_; ((try (refine wK ?_; intro _)))) | refine wC ?_ | (refine ex_split rfl ?_ ?_ <;> intro hc))
    all_goals exact fin (.inr rfl) () (resl2 rfl (rv_cell_a rfl (by simp_all [ap, sub, spl, ec, U_z]; try (intro h; exact absurd h (Int.not_lt.2 (by assumption))))) (rv_tmp (by show Value.bool _ = Value.bool _; simp_all [ap]))) trivial (Ent.toOne _)
  · by_cases hk : k = 3
    · subst hk
      have hn : decide (n ≥ 1) = false := by simpa using h3
      have hap : ap (3, n) (t, key, v, lb) = ((0, 0, 0, 0), false) := by simp only [ap, hn]; rfl
      have hps : pass 3 n key v = false := rfl
      rw [hap]
      refine spec_of Tryz.func124 rfl Tryz.ntmps124 rfl ?_
      repeat' (first | (refine rG 0 [2, 3, 4] ?_; ((try ((refine o_box (by decide) (v := .agg (List.toArray _)) rfl rfl (fun _ => ?_)))) <;> (try ((refine o_box (by decide) (v := .agg (List.toArray _)) rfl rfl (fun _ => ?_)))) <;> (try ((refine o_alloc_a (by decide) (fun _ => ?_)))) <;> (try (refine wK ?_; intro _)))) | (refine rG 1 [2, 3, 4, 6] ?_; ((try (refine wK ?_; intro _)))) | (refine rG 3 [2, 3, 4, 16] ?_; ((try (refine wK ?_; intro _)))) | (refine rG 5 [2, 3, 4, 26] ?_; ((try refine wO ?_) <;> (repeat' (refine g_split rfl (by decide) rfl (by decide) ?_ ?_ <;> intro hc <;> (try refine wO ?_))) <;> (try (refine wK ?_; intro _)))) | (refine rG 9 [3, 4, 50] ?_; ((try refine wO ?_) <;> (try (refine o_call (passes _ _ _ _ _ _) (by first | exact True.intro | (show _ < _; decide)) rfl rfl (fun _ _ => ?_))) <;> (try (refine wK ?_; intro _)))) | (refine rG 10 [4, 5] ?_; ((try (refine wK ?_; intro _)))) | (refine rG 11 [4, 5] ?_; ((try (refine wK ?_; intro _)))) | refine wC ?_ | (refine ex_split rfl ?_ ?_ <;> intro hc))
      all_goals exact fin (.inr rfl) () (resl2 rfl (rv_cell_a rfl rfl) (rv_tmp rfl)) trivial (Ent.toOne _)
    · have hk3 : (k == 3) = false := by simpa using hk
      refine spec_of Tryz.func124 rfl Tryz.ntmps124 rfl ?_
      repeat' (first | (refine rG 0 [2, 3, 4] ?_; ((try ((refine o_box (by decide) (v := .agg (List.toArray _)) rfl rfl (fun _ => ?_)))) <;> (try ((refine o_box (by decide) (v := .agg (List.toArray _)) rfl rfl (fun _ => ?_)))) <;> (try ((refine o_alloc_a (by decide) (fun _ => ?_)))) <;> (try (refine wK ?_; intro _)))) | (refine rG 1 [2, 3, 4, 6] ?_; ((try (refine wK ?_; intro _)))) | (refine rG 2 [3, 4] ?_; ((try (refine wK ?_; intro _)))) | (refine rG 3 [2, 3, 4, 16] ?_; ((try (refine wK ?_; intro _)))) | (refine rG 4 [3, 4] ?_; ((try (refine wK ?_; intro _)))) | (refine rG 5 [2, 3, 4, 26] ?_; ((try refine wO ?_) <;> (repeat' (refine g_split rfl (by decide) rfl (by decide) ?_ ?_ <;> intro hc <;> (try refine wO ?_))) <;> (try (refine wK ?_; intro _)))) | (refine rG 9 [3, 4, 50] ?_; ((try refine wO ?_) <;> (try (refine o_call (passes _ _ _ _ _ _) (by first | exact True.intro | (show _ < _; decide)) rfl rfl (fun _ _ => ?_))) <;> (try (refine wK ?_; intro _)))) | (refine rG 10 [4, 5] ?_; ((try (refine wK ?_; intro _)))) | (refine rG 11 [4, 5] ?_; ((try (refine wK ?_; intro _)))) | refine wC ?_ | (refine ex_split rfl ?_ ?_ <;> intro hc))
      all_goals exact fin (.inr rfl) () (resl2 rfl (rv_cell_a rfl (by simp_all [ap, sub, spl, ec, U_z])) (rv_tmp (by show Value.bool _ = Value.bool _; simp_all [ap]))) trivial (Ent.toOne _)
def rn : List (Int × Int) → Ev → Ev × Bool
  | [], e => (e, true)
  | o :: l, e => if (ap o e).2 then rn l (ap o e).1 else ((0, 0, 0, 0), false)
theorem run (H : HP) (a : Option Addr) (l : List (Int × Int)) (cap : Nat) (e0 : Ev) (cs : List Value) [hr : RdC H a cs] (hcs : cs = l.flatMap oc) (hl : l.length ≤ 1000000) : Spec Tryz.prog 107 [.agg (ec e0).toArray, .slice a l.length cap] H (X := Unit) (fun _ => .tuple #[.agg (ec (rn l e0).1).toArray, .bool (rn l e0).2]) (fun _ => True) (fun _ => H) := by
  subst hcs
  refine spec_of Tryz.func107 rfl Tryz.ntmps107 rfl ?_
  repeat' (first | (refine rG 0 [1, 2, 4] ?_; ((try ((refine o_box (by decide) (v := .agg (List.toArray _)) rfl rfl (fun _ => ?_)))) <;> (try ((refine o_alloc_a (by decide) (fun _ => ?_)))) <;> (try (refine wK ?_; intro _)))) | (refine rG 1 [2, 4, 10, 11, 12] ?_; ((try (refine wK ?_; intro _)))) | refine wC ?_ | (refine ex_split rfl ?_ ?_ <;> intro hc))
  rename_i b2 b4 _ _
  refine ex_loopE (fun mm e H' => ∃ g, ∃ i : Nat, ∃ e1 : Ev, e = put (put (put (put (put g 2 (.pointer (some ⟨b2, 0, none⟩))) 4 (.pointer (some ⟨b4, 0, none⟩))) 10 (.slice a l.length cap)) 11 (.int .i64 (l.length : Int))) 12 (.int .i64 (i : Int)) ∧
    H' = cl true b4 [.int .i64 0, .int .i64 0, .int .i64 0, .int .u64 0] 37 (0, 0) * (cl true b2 (ec e1) 37 (0, 0) * H) ∧ i ≤ l.length ∧ mm = l.length - i ∧ rn (l.drop i) e1 = rn l e0) (m := l.length) ⟨_, 0, e0, rfl, rfl, by omega, by omega, rfl⟩ ?_ ?_
  · exact ent_take
  · rintro mm e H' ⟨g, i, e1, rfl, rfl, hi, rfl, hs⟩
    by_cases hlt : i < l.length
    · have hd : decide ((i : Int) < (l.length : Int)) = true := by simp; omega
      have h0 : 0 ≤ (i : Int) := by omega
      have h1 : (i : Int) < (l.length : Int) := by omega
      refine Ex.rd_some (a := a) (l := l.flatMap oc) (by rw [flat_len oc_len]; omega) (fun ad ha => ?_)
      subst ha
      have hv : sub (l.flatMap oc) ((i : Int).toNat * 2) 2 = some (oc l[i]) := by rw [Int.toNat_natCast]; exact sub_flat oc_len l i hlt
      have ei : IntKind.i64.wrap ((i : Int) + 1) = ((i + 1 : Nat) : Int) := by rw [IntKind.wrap_i64]; omega
      rw [List.drop_eq_getElem_cons hlt, rn] at hs
      cases hap : (ap l[i] e1).2 with
      | true =>
        rw [hap, if_pos rfl] at hs
        repeat' (first | (refine rG 2 [2, 4, 10, 11, 12, 13] ?_; ((try (refine wK ?_; intro _)))) | (refine rG 3 [2, 4, 7, 10, 11, 12] ?_; ((try refine wO ?_) <;> (try ((refine o_alloc_a (by decide) (fun _ => ?_)))) <;> (try (refine wK ?_; intro _)))) | (refine rG 4 [2, 4, 8, 9, 10, 11, 12] ?_; ((try refine wO ?_) <;> (try ((refine o_call (apply l[i] e1) (by first | exact True.intro | (show _ < _; decide)) rfl rfl (fun _ _ => ?_); rw [hap]))) <;> (try refine wO ?_) <;> (try ((refine o_alloc_a (by decide) (fun _ => ?_)))) <;> (try (refine wK ?_; intro _)))) | (refine rG 5 [2, 4, 8, 10, 11, 12, 23] ?_; ((try (refine wK ?_; intro _)))) | (refine rG 7 [2, 4, 10, 11, 12] ?_; ((try (refine wK ?_; intro _)))) | (refine rG 8 [2, 4, 10, 11, 12] ?_; ((try (refine wK ?_; intro _)))) | refine wC ?_ | (refine ex_split rfl ?_ ?_ <;> intro hc))
        rw [ei]
        refine ⟨l.length - (i + 1), by omega, _, ?_, _, i + 1, (ap l[i] e1).1, rfl, rfl, by omega, rfl, hs⟩
        show Ent (cl true b2 (ec (ap l[i] e1).1) 37 (0, 0) * _) _
        exact ent_take
      | false =>
        rw [hap] at hs
        repeat' (first | (refine rG 2 [2, 4, 10, 11, 12, 13] ?_; ((try (refine wK ?_; intro _)))) | (refine rG 3 [2, 4, 7, 10, 11, 12] ?_; ((try refine wO ?_) <;> (try ((refine o_alloc_a (by decide) (fun _ => ?_)))) <;> (try (refine wK ?_; intro _)))) | (refine rG 4 [2, 4, 8, 9, 10, 11, 12] ?_; ((try refine wO ?_) <;> (try ((refine o_call (apply l[i] e1) (by first | exact True.intro | (show _ < _; decide)) rfl rfl (fun _ _ => ?_); rw [hap]))) <;> (try refine wO ?_) <;> (try ((refine o_alloc_a (by decide) (fun _ => ?_)))) <;> (try (refine wK ?_; intro _)))) | (refine rG 5 [2, 4, 8, 10, 11, 12, 23] ?_; ((try (refine wK ?_; intro _)))) | (refine rG 6 [4, 5] ?_; ((try (refine wK ?_; intro _)))) | refine wC ?_ | (refine ex_split rfl ?_ ?_ <;> intro hc))
        rw [← hs]
        exact fin (.inr rfl) () (resl2 rfl (rv_cell_a rfl rfl) (rv_tmp rfl)) trivial ent_take
    · have hil : i = l.length := by omega
      subst hil
      have hd : decide ((l.length : Int) < (l.length : Int)) = false := by simp
      rw [List.drop_length, rn] at hs
      repeat' (first | (refine rG 2 [2, 4, 10, 11, 12, 13] ?_; ((try (refine wK ?_; intro _)))) | (refine rG 9 [4, 5] ?_; ((try (refine wK ?_; intro _)))) | refine wC ?_ | (refine ex_split rfl ?_ ?_ <;> intro hc))
      rw [← hs]
      exact fin (.inr rfl) () (resl2 rfl (rv_cell_a rfl rfl) (rv_tmp rfl)) trivial ent_take
end Go.Proofs.YtcelailgedndnaaGreatS.R
namespace Go.Proofs.YtcelailgedndnaaGreatS.Bd
open Go.Proofs.YtcelailgedndnaaGreatS
open Go.RowKit
set_option linter.unusedVariables false
set_option linter.unusedSimpArgs false
abbrev Rl : Type := Int × Int × Int × Bool
def lc (r : Rl) : List Value := [.int .i64 r.1, .int .i64 r.2.1, .int .i64 r.2.2.1, .bool r.2.2.2]
theorem lc_len (r : Rl) : (lc r).length = 4 := rfl
theorem lc_one (r : Rl) : ∀ v ∈ lc r, v.oneCell' = true := by intro v hv; simp [lc] at hv; rcases hv with rfl | rfl | rfl | rfl <;> rfl
/-- A row of releases: where, its room, what. -/
abbrev Br : Type := Option Addr × Nat × List Rl
def bcell (r : Br) : Value := .slice r.1 r.2.2.length r.2.1
def bow (r : Br) : HP := ow 79 4 r.1 r.2.2.length r.2.1 (r.2.2.flatMap lc)
def bm : List Br → HP
  | [] => 1
  | r :: l => bow r * bm l
theorem bm_get (l : List Br) (i : Nat) (h : i < l.length) : bm l = bow l[i] * bm (l.eraseIdx i) := by
  induction l generalizing i with
  | nil => simp at h
  | cons r l ih =>
    cases i with
    | zero => rfl
    | succ i =>
      have h' : i < l.length := by simpa using h
      show bow r * bm l = bow l[i] * (bow r * bm (l.eraseIdx i))
      rw [ih i h', sep_left_comm]
theorem bm_set (l : List Br) (i : Nat) (h : i < l.length) (r : Br) : bm (l.set i r) = bow r * bm (l.eraseIdx i) := by
  have h2 := bm_get (l.set i r) i (by simpa using h)
  rw [List.getElem_set_self] at h2
  rw [h2]
  congr 2
  exact List.eraseIdx_set_eq
set_option linter.unusedVariables false
set_option linter.unusedSimpArgs false
attribute [local irreducible] Ops Ex Spec T V QO OA Rn OS
theorem there (t : Int) : Spec Tryz.prog 100 [.int .i64 t] 1 (X := Unit) (fun _ => .bool (decide (t ≥ 0) && decide (t < 8))) (fun _ => True) (fun _ => 1) := by
  refine spec_of Tryz.func100 rfl Tryz.ntmps100 rfl ?_
  repeat' (first | (refine rG 0 [0] ?_; ((try (refine wK ?_; intro _)))) | (refine rG 1 [2] ?_; ((try refine wO ?_) <;> (repeat' (refine g_split rfl (by decide) rfl (by decide) ?_ ?_ <;> intro hc <;> (try refine wO ?_))) <;> (try (refine wK ?_; intro _)))) | refine wC ?_ | (refine ex_split rfl ?_ ?_ <;> intro hc))
  all_goals exact fin (.inr rfl) () (resl1 rfl (rv_tmp (by simp only [*]; rfl))) trivial (Ent.refl _)
end Go.Proofs.YtcelailgedndnaaGreatS.Bd
namespace Go.Proofs.YtcelailgedndnaaGreatS.Bd
open Go.Proofs.YtcelailgedndnaaGreatS
open Go.RowKit
set_option linter.unusedVariables false
set_option linter.unusedSimpArgs false
theorem spl_set (l : List Value) (i : Nat) (v : Value) (h : i < l.length) : spl l i [v] = l.set i v := by
  rw [spl_eq l i [v] (by simp; omega), List.set_eq_take_append_cons_drop, if_pos h]
  simp
theorem bcell_set (bs : List Br) (i : Nat) (r : Br) (h : i < bs.length) : spl (bs.map bcell) i [bcell r] = (bs.set i r).map bcell := by
  rw [spl_set _ _ _ (by simpa using h), List.map_set]
/-- What each has behind a Pin. -/
def pins (m : BitVec 64) (rs : List Rl) (t : Nat) (l : List Rl) : List Rl := if hs m (t : Int) then l ++ rs else l
set_option linter.unusedVariables false
set_option linter.unusedSimpArgs false
attribute [local irreducible] Ops Ex Spec T V QO OA Rn OS
set_option maxHeartbeats 8000000 in
theorem pin (b : Nat) (H : HP) (bs : List Br) (m : BitVec 64) (a : Option Addr) (rs : List Rl) (c : Nat) [hr : RdC H a (rs.flatMap lc)] (h8 : bs.length = 8) (hl : ∀ i (h : i < bs.length), (bs[i]).2.2.length ≤ 100000 ∧ (bs[i]).2.2.length ≤ (bs[i]).2.1) (hrs : rs.length ≤ 100000) :
    Spec Tryz.prog 98 [.pointer (some ⟨b, 0, none⟩), .int .u64 (U m), .slice a rs.length c] (cl true b (bs.map bcell) 146 (0, 0) * (bm bs * H)) (X := List Br) (fun _ => .tuple #[]) (fun bs' => bs'.length = 8 ∧ ∀ i (h : i < bs.length) (h' : i < bs'.length), (bs'[i]).2.2 = pins m rs i (bs[i]).2.2 ∧ (bs'[i]).2.2.length ≤ (bs'[i]).2.1) (fun bs' => cl true b (bs'.map bcell) 146 (0, 0) * (bm bs' * H)) := by
  refine spec_of Tryz.func98 rfl Tryz.ntmps98 rfl ?_
  repeat' (first | (refine rG 0 [0, 1, 2, 7] ?_; ((try (refine wK ?_; intro _)))) | refine wC ?_ | (refine ex_split rfl ?_ ?_ <;> intro hc))
  refine ex_loopE (fun mm e H' => ∃ G, ∃ j : Nat, ∃ bj : List Br, e = put (put (put (put G 0 (.pointer (some ⟨b, 0, none⟩))) 1 (.int .u64 (U m))) 2 (.slice a rs.length c)) 7 (.int .i64 (j : Int)) ∧ H' = cl true b (bj.map bcell) 146 (0, 0) * (bm bj * H) ∧ j ≤ 8 ∧ mm = 8 - j ∧ bj.length = 8 ∧
    (∀ i (h : i < bs.length) (h' : i < bj.length), (bj[i]).2.2 = (if i < j then pins m rs i (bs[i]).2.2 else (bs[i]).2.2) ∧ (bj[i]).2.2.length ≤ (bj[i]).2.1)) (m := 8) ⟨_, 0, bs, rfl, rfl, by omega, rfl, h8, fun i h h' => ⟨by rw [if_neg (by omega)], (hl i h).2⟩⟩ (Ent.refl _) ?_
  rintro mm e H' ⟨G, j, bj, rfl, rfl, hj, rfl, hbl, hp⟩
  by_cases hj8 : j < 8
  · have d8 : decide ((j : Int) < 8) = true := decide_eq_true (by omega)
    have h0 : 0 ≤ (j : Int) := by omega
    have h1 : (j : Int) < 8 := by omega
    have hjb : j < bj.length := by omega
    have hjs : j < bs.length := by omega
    have e26 : IntKind.i64.wrap ((j : Int) + 1) = ((j + 1 : Nat) : Int) := by rw [IntKind.wrap_i64]; omega
    cases hH : hs m (j : Int) with
    | false =>
      repeat' (first | (refine ex_regk (id := 1) (ts := [0, 1, 2, 7, 8]) ?_; ((try ((refine o_int (by decide) rfl rfl rfl ?_; rw [d8]))) <;> (try (refine ops_nilk ?_; intro _)) <;> (try ((first | refine keep_cons (v := .pointer _) rfl ?_ | refine keep_cons (v := _) rfl ?_) <;> (first | refine keep_cons (v := .int _ _) rfl ?_ | refine keep_cons (v := _) rfl ?_) <;> (first | refine keep_cons (v := .slice _ _ _) rfl ?_ | refine keep_cons (v := _) rfl ?_) <;> (first | refine keep_cons (v := .int _ _) rfl ?_ | refine keep_cons (v := _) rfl ?_) <;> (first | refine keep_cons (v := _) rfl ?_))) <;> (try refine keep_nil ?_))) | (refine rG 2 [0, 1, 2, 6, 7] ?_; ((try (refine wK ?_; intro _)))) | (refine rG 3 [0, 1, 2, 6, 7, 12] ?_; ((try refine wO ?_) <;> (try (refine o_call (hasV hH) (by first | exact True.intro | (show _ < _; decide)) rfl rfl (fun _ _ => ?_))) <;> (try (refine wK ?_; intro _)))) | (refine rG 5 [0, 1, 2, 7] ?_; ((try (refine wK ?_; intro _)))) | refine wC ?_ | (refine ex_split rfl ?_ ?_ <;> intro hc))
      rw [e26]
      refine ⟨8 - (j + 1), by omega, _, ent_take, _, j + 1, bj, rfl, rfl, by omega, rfl, hbl, fun i h h' => ⟨?_, (hp i h h').2⟩⟩
      rw [(hp i h h').1]
      by_cases hij : i = j
      · subst hij; rw [if_neg (by omega), if_pos (by omega)]; unfold pins; rw [hH]; rfl
      · by_cases hlt : i < j
        · rw [if_pos hlt, if_pos (by omega)]
        · rw [if_neg hlt, if_neg (by omega)]
    | true =>
      have hrow := hp j hjs hjb
      rw [if_neg (by omega)] at hrow
      have hbj := bm_get bj j hjb
      have hv : (bj.map bcell)[(j : Int).toNat * 1]? = some (bcell bj[j]) := by rw [Int.toNat_natCast, Nat.mul_one, List.getElem?_map, List.getElem?_eq_getElem hjb]; rfl
      have hll : (bj[j]).2.2.length ≤ 100000 := by rw [hrow.1]; exact (hl j hjs).1
      have hset := bm_set bj j hjb
      have hidx : 0 + 0 + (j : Int).toNat * 1 = j := by rw [Int.toNat_natCast]; omega
      have hf : Nat.blt (0 + 0 + (j : Int).toNat * 1) (bj.map bcell).length = true := by rw [hidx, List.length_map]; rw [Nat.blt_eq]; exact hjb
      have hcs := fun r => bcell_set bj j r hjb
      generalize hBm : bm (bj.eraseIdx j) = BM at *
      rw [hbj]
      generalize hRj : bj[j] = R at *
      obtain ⟨ra, rc, rl⟩ := R
      have hll : rl.length ≤ 100000 := hll
      refine Ex.ent (H' := cl true b (bj.map bcell) 146 (0, 0) * (ow 79 4 ra rl.length rc (rl.flatMap lc) * (BM * H))) ?_ (Ent.ofEq (by rw [sep_assoc]; rfl))
      repeat' (first | (refine ex_regk (id := 1) (ts := [0, 1, 2, 7, 8]) ?_; ((try ((refine o_int (by decide) rfl rfl rfl ?_; rw [d8]))) <;> (try (refine ops_nilk ?_; intro _)) <;> (try ((first | refine keep_cons (v := .pointer _) rfl ?_ | refine keep_cons (v := _) rfl ?_) <;> (first | refine keep_cons (v := .int _ _) rfl ?_ | refine keep_cons (v := _) rfl ?_) <;> (first | refine keep_cons (v := .slice _ _ _) rfl ?_ | refine keep_cons (v := _) rfl ?_) <;> (first | refine keep_cons (v := .int _ _) rfl ?_ | refine keep_cons (v := _) rfl ?_) <;> (first | refine keep_cons (v := _) rfl ?_))) <;> (try refine keep_nil ?_))) | (refine rG 2 [0, 1, 2, 6, 7] ?_; ((try (refine wK ?_; intro _)))) | (refine rG 3 [0, 1, 2, 6, 7, 12] ?_; ((try refine wO ?_) <;> (try (refine o_call (hasV hH) (by first | exact True.intro | (show _ < _; decide)) rfl rfl (fun _ _ => ?_))) <;> (try (refine wK ?_; intro _)))) | refine wC ?_ | (refine ex_split rfl ?_ ?_ <;> intro hc))
      repeat' (first | (refine rA 4 [0, 1, 2, 7] 14 ?_; (refine os_butBO 0 79 4 ra rl.length rc rfl ?_); ((refine lQ 0 ?_; ((refine lQ 1 ?_; ((refine lQ 2 ?_; ((refine lQ 3 ?_; ((refine lQ 4 ?_; ((refine lQ 5 ?_; ((refine lQ 6 ?_; ((refine lQ 8 ?_; ((refine lQ 10 ?_; ((refine lQ 11 ?_; ((refine oN 7 ?_ <;> (refine o_load_r (ad := ⟨b, 0, none⟩) (by decide) (by rw [add_none]; simp only [Nat.zero_add]; rfl) hv ?_) <;> (refine os_nil ?_) <;> ((refine oN 9 ?_ <;> (refine o_appendT (cells := lc) (xs := rl) (ys := rs) lc_len lc_one (by decide) rfl rfl rfl rfl rfl (by omega) (by simp only [maxLen]; omega) (fun a22 c22 hc22 => ?_)) <;> (refine os_nil ?_) <;> ((refine lQ 12 ?_; ((refine oN 13 ?_ <;> (refine o_store_s (v := bcell (a22, c22, rl ++ rs)) rfl rfl rfl hf ?_) <;> (refine os_nil ?_) <;> ((refine dK ?_; intro _))))))))))))))))))))))))))))))) | (refine rG 5 [0, 1, 2, 7] ?_; ((try (refine wK ?_; intro _)))) | refine wC ?_ | (refine ex_split rfl ?_ ?_ <;> intro hc))
      rw [e26, hidx, hcs]
      refine ⟨8 - (j + 1), by omega, _, ?_, _, j + 1, bj.set j (a22, c22, rl ++ rs), rfl, rfl, by omega, rfl, by rw [List.length_set]; exact hbl, fun i h h' => ?_⟩
      · rw [hset, sep_assoc]; unfold bow; exact ent_take
      · by_cases hij : i = j
        · subst hij
          rw [List.getElem_set_self, if_pos (by omega)]
          have hr1 : rl = (bs[i]).2.2 := hrow.1
          unfold pins
          rw [hH, if_pos rfl, ← hr1]
          exact ⟨rfl, hc22⟩
        · have hib : i < bj.length := by omega
          rw [List.getElem_set_ne (fun e => hij e.symm)]
          refine ⟨?_, (hp i h hib).2⟩
          rw [(hp i h hib).1]
          by_cases hlt : i < j
          · rw [if_pos hlt, if_pos (by omega)]
          · rw [if_neg hlt, if_neg (by omega)]
  · have hj8 : j = 8 := by omega
    subst hj8
    have d8 : decide (((8 : Nat) : Int) < 8) = false := rfl
    repeat' (first | (refine ex_regk (id := 1) (ts := [0, 1, 2, 7, 8]) ?_; ((try ((refine o_int (by decide) rfl rfl rfl ?_; rw [d8]))) <;> (try (refine ops_nilk ?_; intro _)) <;> (try ((first | refine keep_cons (v := .pointer _) rfl ?_ | refine keep_cons (v := _) rfl ?_) <;> (first | refine keep_cons (v := .int _ _) rfl ?_ | refine keep_cons (v := _) rfl ?_) <;> (first | refine keep_cons (v := .slice _ _ _) rfl ?_ | refine keep_cons (v := _) rfl ?_) <;> (first | refine keep_cons (v := .int _ _) rfl ?_ | refine keep_cons (v := _) rfl ?_) <;> (first | refine keep_cons (v := _) rfl ?_))) <;> (try refine keep_nil ?_))) | refine wC ?_ | (refine ex_split rfl ?_ ?_ <;> intro hc))
    refine fin (.inl rfl) bj (resl0 rfl) ⟨hbl, fun i h h' => ⟨?_, (hp i h h').2⟩⟩ (Ent.refl _)
    rw [(hp i h h').1, if_pos (by omega)]
end Go.Proofs.YtcelailgedndnaaGreatS.Bd
namespace Go.Proofs.YtcelailgedndnaaGreatS.Bd
open Go.Proofs.YtcelailgedndnaaGreatS
open Go.RowKit
set_option linter.unusedVariables false
set_option linter.unusedSimpArgs false
/-- How many are told. -/
def tk (n : Int) (r : Nat) : Nat := (if n < 0 then 0 else min (min n.toNat 32) r)
theorem tk_le (n : Int) (r : Nat) : tk n r ≤ r ∧ tk n r ≤ 32 := by unfold tk; split <;> omega
theorem tk_eq (n : Int) (r : Nat) (hr : r ≤ 1000000) : (if (if (r : Int) < (if (32 : Int) < n then 32 else n) then (r : Int) else (if (32 : Int) < n then 32 else n)) > 0 then (if (r : Int) < (if (32 : Int) < n then 32 else n) then (r : Int) else (if (32 : Int) < n then 32 else n)) else 0) = (tk n r : Int) := by
  unfold tk
  by_cases h1 : (32 : Int) < n
  · rw [if_pos h1, if_neg (by omega : ¬ n < 0)]
    split <;> split <;> omega
  · rw [if_neg h1]
    split <;> split <;> first | omega | (split <;> omega)
set_option linter.unusedVariables false
set_option linter.unusedSimpArgs false
attribute [local irreducible] Ops Ex Spec T V QO OA Rn OS
theorem clone (H : HP) (a : Option Addr) (xs : List Rl) (cap : Nat) [hr : RdC H a (xs.flatMap lc)] (hx : xs.length ≤ 1000000) : Spec Tryz.prog 92 [.slice a xs.length cap] H (X := Option Addr × Nat) (fun x => .slice x.1 xs.length x.2) (fun x => xs.length ≤ x.2) (fun x => ow 79 4 x.1 xs.length x.2 (xs.flatMap lc) * H) := by
  refine spec_of Tryz.func92 rfl Tryz.ntmps92 rfl ?_
  cases a with
  | none =>
    by_cases hxs : xs = []
    · subst hxs
      have hn : (Option.isNone (none : Option Addr)) = true := rfl
      repeat' (first | (refine rG 0 [0] ?_; ((try (refine wK ?_; intro _)))) | (refine rG 1 [0, 4] ?_; ((try refine wO ?_) <;> (try (refine o_eqSN (by decide) rfl Tryz.underlying47 ?_)) <;> (try (refine wK ?_; intro _)))) | (refine rG 2 [2] ?_; ((try (refine wK ?_; intro _)))) | refine wC ?_ | (refine ex_split rfl ?_ ?_ <;> intro hc))
      exact fin (.inr rfl) (none, 0) (resl1 rfl (rv_tmp rfl)) (Nat.le_refl _) (Ent.ow_none _ _ _)
    · refine Ex.rd_some (a := none) (l := xs.flatMap lc) (by rw [flat_len lc_len]; have := List.length_pos_iff.2 hxs; omega) (fun ad ha => by cases ha)
  | some ad =>
    repeat' (first | (refine rG 0 [0] ?_; ((try (refine wK ?_; intro _)))) | (refine rG 1 [0, 4] ?_; ((try refine wO ?_) <;> (try (refine o_eqSN (by decide) rfl Tryz.underlying47 ?_)) <;> (try (refine wK ?_; intro _)))) | (refine rG 2 [2] ?_; ((try (refine wK ?_; intro _)))) | (refine rG 3 [2] ?_; ((try ((refine o_buildSlice (by decide) rfl rfl rfl (fun _ => ?_)))) <;> (try refine wO ?_) <;> (try (refine o_copyT (cells := lc) (ys := xs) lc_len lc_one (by decide) rfl rfl rfl rfl rfl (by omega) (by simp only [maxLen]; omega) (fun a' cap' hc => ?_))) <;> (try (refine wK ?_; intro _)))) | refine wC ?_ | (refine ex_split rfl ?_ ?_ <;> intro hc))
    exact fin (.inr rfl) (_, _) (resl1 rfl (rv_tmp rfl)) hc (Ent.refl _)
set_option maxHeartbeats 8000000 in
theorem told (b : Nat) (H : HP) (bs : List Br) (i f : Nat) (n : Int) (hi : i < bs.length) (h8 : bs.length = 8) (hf : f ≤ (bs[i]).2.2.length) (hc : (bs[i]).2.2.length ≤ (bs[i]).2.1) (hl : (bs[i]).2.2.length ≤ 1000000) {x : List Rl} (hx : ((bs[i]).2.2.drop f).take (tk n ((bs[i]).2.2.length - f)) = x) :
    Spec Tryz.prog 68 [.pointer (some ⟨b, 0, none⟩), .int .i64 (i : Int), .int .i64 (f : Int), .int .i64 n] (cl true b (bs.map bcell) 146 (0, 0) * (bm bs * H)) (X := Option Addr × Nat) (fun y => .tuple #[.slice y.1 x.length y.2, .int .i64 0]) (fun y => x.length ≤ y.2) (fun y => ow 79 4 y.1 x.length y.2 (x.flatMap lc) * (cl true b (bs.map bcell) 146 (0, 0) * (bm bs * H))) := by
  have d : (decide ((i : Int) ≥ 0) && decide ((i : Int) < 8)) = true := by rw [decide_eq_true (by omega : (i : Int) ≥ 0), decide_eq_true (by omega : (i : Int) < 8)]; rfl
  have h0 : 0 ≤ (i : Int) := by omega
  have h1 : (i : Int) < 8 := by omega
  have hv : (bs.map bcell)[(i : Int).toNat * 1]? = some (bcell bs[i]) := by rw [Int.toNat_natCast, Nat.mul_one, List.getElem?_map, List.getElem?_eq_getElem hi]; rfl
  have hbi := bm_get bs i hi
  generalize hBm : bm (bs.eraseIdx i) = BM at *
  rw [hbi]
  generalize hRi : bs[i] = R at *
  obtain ⟨ra, rc, rl⟩ := R
  have hf : f ≤ rl.length := hf
  have hc : rl.length ≤ rc := hc
  have hl : rl.length ≤ 1000000 := hl
  have hx : (rl.drop f).take (tk n (rl.length - f)) = x := hx
  obtain ⟨k1, k2⟩ := tk_le n (rl.length - f)
  have hxl : x.length = tk n (rl.length - f) := by rw [← hx, List.length_take, List.length_drop]; omega
  have d21 : decide ((f : Int) < 0) = false := decide_eq_false (by omega)
  have d26 : decide ((f : Int) > (rl.length : Int)) = false := decide_eq_false (by omega)
  have e32 : IntKind.i64.wrap ((rl.length : Int) - (f : Int)) = ((rl.length - f : Nat) : Int) := by rw [IntKind.wrap_i64]; omega
  have e34 := tk_eq n (rl.length - f) (by omega)
  have e39 : IntKind.i64.wrap ((f : Int) + (tk n (rl.length - f) : Int)) = ((f + tk n (rl.length - f) : Nat) : Int) := by rw [IntKind.wrap_i64]; omega
  generalize tk n (rl.length - f) = q at *
  have hcut : ((rl.flatMap lc).drop (f * 4)).take ((f + q - f) * 4) = x.flatMap lc := by
    rw [Nat.add_sub_cancel_left, flat_drop lc_len, flat_take lc_len, hx]
  have hqx : f + q - f = x.length := by omega
  have hcP : ((ra, rc, rl) : Br).2.1 = rc := rfl
  have hlP : ((ra, rc, rl) : Br).2.2.length = rl.length := rfl
  refine spec_of Tryz.func68 rfl Tryz.ntmps68 rfl ?_
  refine Ex.ent (H' := cl true b (bs.map bcell) 146 (0, 0) * (ow 79 4 ra rl.length rc (rl.flatMap lc) * (BM * H))) ?_ (Ent.ofEq (by rw [sep_assoc]; rfl))
  repeat' (first | (refine rG 0 [0, 1, 2, 3] ?_; ((try (refine wK ?_; intro _)))) | (refine rG 1 [0, 1, 2, 3, 13] ?_; ((try refine wO ?_) <;> (try ((refine o_call (there _) (by first | exact True.intro | (show _ < _; decide)) rfl rfl (fun _ _ => ?_); rw [d]))) <;> (try (refine wK ?_; intro _)))) | (refine ex_regk (id := 3) (ts := [2, 3, 10]) ?_; ((try (first | refine o_mv (v := .pointer _) (by decide) rfl ?_ | refine o_mv (by decide) rfl ?_)) <;> (try (first | refine o_mv (v := .int _ _) (by decide) rfl ?_ | refine o_mv (by decide) rfl ?_)) <;> (try (first | refine o_nil (by decide) rfl ?_ | refine o_nil_func (by decide) rfl ?_)) <;> (try (refine o_fieldAddr' (by decide) rfl ?_)) <;> (try (refine o_indexA (by decide) rfl rfl (by first | decide | assumption | omega) (by first | decide | assumption | omega) ?_)) <;> (try (refine o_load_r (ad := ⟨b, 0, none⟩) (by decide) (by rw [add_none]; simp only [Nat.zero_add]; rfl) hv ?_)) <;> (try (first | refine o_as (v := .slice _ _ _) (by decide) rfl ?_ | refine o_as (by decide) rfl ?_)) <;> (try (refine ops_nilk ?_; intro _)) <;> (try ((first | refine keep_cons (v := .int _ _) rfl ?_ | refine keep_cons (v := _) rfl ?_) <;> (first | refine keep_cons (v := .int _ _) rfl ?_ | refine keep_cons (v := _) rfl ?_) <;> (first | refine keep_cons (v := .slice _ _ _) rfl ?_ | refine keep_cons (v := _) rfl ?_))) <;> (try refine keep_nil ?_))) | (refine ex_regk (id := 4) (ts := [2, 3, 10, 27]) ?_; ((try (first | refine o_mv (v := .int _ _) (by decide) rfl ?_ | refine o_mv (by decide) rfl ?_)) <;> (try ((refine o_int (by decide) rfl rfl rfl ?_; rw [d21]))) <;> (try (first | refine o_mv (v := .bool _) (by decide) rfl ?_ | refine o_mv (by decide) rfl ?_)) <;> (try (first | refine g_no rfl (by decide) rfl (by decide) ?_ | refine g_undef rfl rfl (by decide) ?_ | (refine g_yes rfl (by decide) rfl ?_; (first | refine o_mv (v := .int _ _) (by decide) rfl ?_ | refine o_mv (by decide) rfl ?_)) | refine g_noT rfl (by decide) rfl (by assumption) (by decide) ?_ | (refine g_yesF rfl (by decide) rfl (by assumption) ?_; (first | refine o_mv (v := .int _ _) (by decide) rfl ?_ | refine o_mv (by decide) rfl ?_)) | ((refine g_split rfl (by decide) rfl (by decide) ?_ ?_ <;> intro hc); (first | refine o_mv (v := .int _ _) (by decide) rfl ?_ | refine o_mv (by decide) rfl ?_)))) <;> (try (first | refine g_no rfl (by decide) rfl (by decide) ?_ | refine g_undef rfl rfl (by decide) ?_ | (refine g_yes rfl (by decide) rfl ?_; (first | refine o_mv (v := .slice _ _ _) (by decide) rfl ?_ | refine o_mv (by decide) rfl ?_)) | refine g_noT rfl (by decide) rfl (by assumption) (by decide) ?_ | (refine g_yesF rfl (by decide) rfl (by assumption) ?_; (first | refine o_mv (v := .slice _ _ _) (by decide) rfl ?_ | refine o_mv (by decide) rfl ?_)) | ((refine g_split rfl (by decide) rfl (by decide) ?_ ?_ <;> intro hc); (first | refine o_mv (v := .slice _ _ _) (by decide) rfl ?_ | refine o_mv (by decide) rfl ?_)))) <;> (try (first | refine g_no rfl (by decide) rfl (by decide) ?_ | refine g_undef rfl rfl (by decide) ?_ | (refine g_yes rfl (by decide) rfl ?_; (refine o_len (by decide) rfl rfl ?_)) | refine g_noT rfl (by decide) rfl (by assumption) (by decide) ?_ | (refine g_yesF rfl (by decide) rfl (by assumption) ?_; (refine o_len (by decide) rfl rfl ?_)) | ((refine g_split rfl (by decide) rfl (by decide) ?_ ?_ <;> intro hc); (refine o_len (by decide) rfl rfl ?_)))) <;> (try (first | refine g_no rfl (by decide) rfl (by decide) ?_ | refine g_undef rfl rfl (by decide) ?_ | (refine g_yes rfl (by decide) rfl ?_; ((refine o_int (by decide) rfl rfl rfl ?_; rw [d26]))) | refine g_noT rfl (by decide) rfl (by assumption) (by decide) ?_ | (refine g_yesF rfl (by decide) rfl (by assumption) ?_; ((refine o_int (by decide) rfl rfl rfl ?_; rw [d26]))) | ((refine g_split rfl (by decide) rfl (by decide) ?_ ?_ <;> intro hc); ((refine o_int (by decide) rfl rfl rfl ?_; rw [d26]))))) <;> (try (first | refine o_pick_t (v := .bool _) (by decide) rfl rfl ?_ | refine o_pick_f (v := .bool _) (by decide) rfl rfl ?_)) <;> (try (refine ops_nilk ?_; intro _)) <;> (try ((first | refine keep_cons (v := .int _ _) rfl ?_ | refine keep_cons (v := _) rfl ?_) <;> (first | refine keep_cons (v := .int _ _) rfl ?_ | refine keep_cons (v := _) rfl ?_) <;> (first | refine keep_cons (v := .slice _ _ _) rfl ?_ | refine keep_cons (v := _) rfl ?_) <;> (first | refine keep_cons (v := .bool _) rfl ?_ | refine keep_cons (v := _) rfl ?_))) <;> (try refine keep_nil ?_))) | (refine ex_regk (id := 6) (ts := [2, 3, 10]) ?_; ((try (first | refine o_mv (v := .int _ _) (by decide) rfl ?_ | refine o_mv (by decide) rfl ?_)) <;> (try (first | refine o_mv (v := .slice _ _ _) (by decide) rfl ?_ | refine o_mv (by decide) rfl ?_)) <;> (try (refine o_len (by decide) rfl rfl ?_)) <;> (try (first | refine o_mv (v := .int _ _) (by decide) rfl ?_ | refine o_mv (by decide) rfl ?_)) <;> (try ((refine o_int (by decide) rfl rfl rfl ?_; rw [e32]))) <;> (try (refine o_min3 (by decide) rfl rfl rfl ?_)) <;> (try ((refine o_max2 (by decide) rfl rfl ?_; rw [e34]))) <;> (try (first | refine o_as (v := .int _ _) (by decide) rfl ?_ | refine o_as (by decide) rfl ?_)) <;> (try (refine ops_nilk ?_; intro _)) <;> (try ((first | refine keep_cons (v := .int _ _) rfl ?_ | refine keep_cons (v := _) rfl ?_) <;> (first | refine keep_cons (v := .int _ _) rfl ?_ | refine keep_cons (v := _) rfl ?_) <;> (first | refine keep_cons (v := .slice _ _ _) rfl ?_ | refine keep_cons (v := _) rfl ?_))) <;> (try refine keep_nil ?_))) | (refine ex_regk (id := 7) (ts := [8, 9]) ?_; ((try (first | refine o_mv (v := .slice _ _ _) (by decide) rfl ?_ | refine o_mv (by decide) rfl ?_)) <;> (try (first | refine o_mv (v := .int _ _) (by decide) rfl ?_ | refine o_mv (by decide) rfl ?_)) <;> (try (first | refine o_mv (v := .int _ _) (by decide) rfl ?_ | refine o_mv (by decide) rfl ?_)) <;> (try (first | refine o_mv (v := .int _ _) (by decide) rfl ?_ | refine o_mv (by decide) rfl ?_)) <;> (try ((refine o_int (by decide) rfl rfl rfl ?_; rw [e39]))) <;> (try ((refine o_slice_r (l := f) (h := f + q) (by decide) rfl ⟨_, _, rfl, by omega, by omega, by omega⟩ ⟨_, _, rfl, by omega, by omega, by omega⟩ (by omega) (fun a40 hr40 => ?_); rw [hcut] at hr40; rw [hqx]))) <;> (try ((refine o_callH (clone _ a40 x _ (by omega)) (by first | exact True.intro | (show _ < _; decide)) rfl rfl (fun y hy => ?_); obtain ⟨ya, yc⟩ := y))) <;> (try (first | refine o_as (v := .slice _ _ _) (by decide) rfl ?_ | refine o_as (by decide) rfl ?_)) <;> (try (first | refine o_as (v := .int _ _) (by decide) rfl ?_ | refine o_as (by decide) rfl ?_)) <;> (try (refine ops_nilk ?_; intro _)) <;> (try ((first | refine keep_cons (v := .slice _ _ _) rfl ?_ | refine keep_cons (v := _) rfl ?_) <;> (first | refine keep_cons (v := .int _ _) rfl ?_ | refine keep_cons (v := _) rfl ?_))) <;> (try refine keep_nil ?_))) | refine wC ?_ | (refine ex_split rfl ?_ ?_ <;> intro hc))
  exact fin (.inr rfl) (ya, yc) (resl2 rfl (rv_tmp rfl) (rv_tmp rfl)) hy (Ent.trans (show Ent _ (ow 79 4 ya x.length yc (x.flatMap lc) * (cl true b (bs.map bcell) 146 (0, 0) * (ow 79 4 ra rl.length rc (rl.flatMap lc) * (BM * H)))) from ent_take) (Ent.ofEq (by rw [sep_assoc (bow _)]; rfl)))
end Go.Proofs.YtcelailgedndnaaGreatS.Bd
namespace Go.Proofs.YtcelailgedndnaaGreatS
open Go.RowKit
set_option linter.unusedVariables false
set_option linter.unusedSimpArgs false
abbrev Ev : Type := R.Ev
abbrev In : Type := Bool × Ev
def inc (x : In) : List Value := .bool x.1 :: R.ec x.2
theorem inc_len (x : In) : (inc x).length = 5 := rfl
theorem inc_one (x : In) : ∀ v ∈ inc x, v.oneCell' = true := by intro v hv; simp [inc, R.ec] at hv; rcases hv with rfl | rfl | rfl | rfl | rfl <;> rfl
theorem sc_len (s : Sk) : (sc s).length = 5 := rfl
theorem sc_one (s : Sk) : ∀ v ∈ sc s, v.oneCell' = true := by intro v hv; simp [sc] at hv; rcases hv with rfl | rfl | rfl | rfl | rfl <;> rfl
def potc (x : Int × Pt) : List Value := pcl x.1 x.2
theorem potc_len (x : Int × Pt) : (potc x).length = 4 := rfl
theorem potc_one (x : Int × Pt) : ∀ v ∈ potc x, v.oneCell' = true := by intro v hv; simp [potc, pcl] at hv; rcases hv with rfl | rfl | rfl | rfl <;> rfl
abbrev oc := R.oc
theorem oc_len (o : Int × Int) : (oc o).length = 2 := rfl
theorem oc_one (x : Int × Int) : ∀ v ∈ oc x, v.oneCell' = true := R.oc_one x
theorem eqARow (d : Nat) (w : World) (x0 y0 x1 y1 x2 y2 x3 y3 x4 y4 : Int) :
    (Op.equalIn (d + 2) 67 (.agg #[.int .i64 x0, .int .i64 x1, .int .i64 x2, .int .i64 x3, .int .u64 x4]) (.agg #[.int .i64 y0, .int .i64 y1, .int .i64 y2, .int .i64 y3, .int .u64 y4])).run Tryz.prog w = .ok (x0 == y0 && (x1 == y1 && (x2 == y2 && (x3 == y3 && (x4 == y4))))) w := by
  refine eqA_of Tryz.underlying67 (by kernel_rfl) ?_
  refine eqf_cons (by rfl) (by go_simp; rfl) (by go_simp; rfl) (by go_simp) ?_
  refine eqf_cons (by rfl) (by go_simp; rfl) (by go_simp; rfl) (by go_simp) ?_
  refine eqf_cons (by rfl) (by go_simp; rfl) (by go_simp; rfl) (by go_simp) ?_
  refine eqf_cons (by rfl) (by go_simp; rfl) (by go_simp; rfl) (by go_simp) ?_
  exact eqf_last (by rfl) (by go_simp; rfl) (by go_simp; rfl) (by go_simp)
theorem eqRow (x y : Rw) : ∀ w, (Op.equalIn 10000 67 (.agg (rwc x).toArray) (.agg (rwc y).toArray)).run Tryz.prog w = .ok (decide (x = y)) w := fun w => by
  obtain ⟨a, b, c, d, f⟩ := x
  obtain ⟨a', b', c', d', f'⟩ := y
  have h := eqARow 9998 w a a' b b' c c' d d' (U f) (U f')
  have e : decide ((a, b, c, d, f) = (a', b', c', d', f')) = (a == a' && (b == b' && (c == c' && (d == d' && (U f == U f'))))) := by
    rw [U_eq]
    simp only [Prod.mk.injEq]
    rw [Bool.eq_iff_iff]; simp
  rw [e]
  exact h
theorem eqARel (d : Nat) (w : World) (x0 y0 x1 y1 x2 y2 : Int) (x3 y3 : Bool) :
    (Op.equalIn (d + 2) 79 (.agg #[.int .i64 x0, .int .i64 x1, .int .i64 x2, .bool x3]) (.agg #[.int .i64 y0, .int .i64 y1, .int .i64 y2, .bool y3])).run Tryz.prog w = .ok (x0 == y0 && (x1 == y1 && (x2 == y2 && ((x3 == y3))))) w := by
  refine eqA_of Tryz.underlying79 (by kernel_rfl) ?_
  refine eqf_cons (by rfl) (by go_simp; rfl) (by go_simp; rfl) (by go_simp) ?_
  refine eqf_cons (by rfl) (by go_simp; rfl) (by go_simp; rfl) (by go_simp) ?_
  refine eqf_cons (by rfl) (by go_simp; rfl) (by go_simp; rfl) (by go_simp) ?_
  exact eqf_last (by rfl) (by go_simp; rfl) (by go_simp; rfl) (by go_simp)
theorem eqRel (x y : Bd.Rl) : ∀ w, (Op.equalIn 10000 79 (.agg (Bd.lc x).toArray) (.agg (Bd.lc y).toArray)).run Tryz.prog w = .ok (decide (x = y)) w := fun w => by
  obtain ⟨a, b, c, d⟩ := x
  obtain ⟨a', b', c', d'⟩ := y
  have h := eqARel 9998 w a a' b b' c c' d d'
  have e : decide ((a, b, c, d) = (a', b', c', d')) = (a == a' && (b == b' && (c == c' && (d == d')))) := by
    simp only [Prod.mk.injEq]
    rw [Bool.eq_iff_iff]; simp
  rw [e]
  exact h
theorem eqAEv (d : Nat) (w : World) (x0 y0 : Int) (x1 y1 : Int) (x2 y2 : Int) (x3 y3 : Int) :
    (Op.equalIn (d + 2) 37 (.agg #[.int .i64 x0, .int .i64 x1, .int .i64 x2, .int .u64 x3]) (.agg #[.int .i64 y0, .int .i64 y1, .int .i64 y2, .int .u64 y3])).run Tryz.prog w = .ok (x0 == y0 && (x1 == y1 && (x2 == y2 && (x3 == y3)))) w := by
  refine eqA_of Tryz.underlying37 (by kernel_rfl) ?_
  refine eqf_cons (by rfl) (by go_simp; rfl) (by go_simp; rfl) (by go_simp) ?_
  refine eqf_cons (by rfl) (by go_simp; rfl) (by go_simp; rfl) (by go_simp) ?_
  refine eqf_cons (by rfl) (by go_simp; rfl) (by go_simp; rfl) (by go_simp) ?_
  exact eqf_last (by rfl) (by go_simp; rfl) (by go_simp; rfl) (by go_simp)
theorem eqAIn (d : Nat) (w : World) (x0 y0 : Bool) (x1 y1 : Int) (x2 y2 : Int) (x3 y3 : Int) (x4 y4 : Int) :
    (Op.equalIn (d + 3) 39 (.agg #[.bool x0, .int .i64 x1, .int .i64 x2, .int .i64 x3, .int .u64 x4]) (.agg #[.bool y0, .int .i64 y1, .int .i64 y2, .int .i64 y3, .int .u64 y4])).run Tryz.prog w = .ok (x0 == y0 && ((x1 == y1 && (x2 == y2 && (x3 == y3 && (x4 == y4)))))) w := by
  refine eqA_of Tryz.underlying39 (by kernel_rfl) ?_
  refine eqf_cons (by rfl) (by go_simp; rfl) (by go_simp; rfl) (by go_simp) ?_
  exact eqf_last (by rfl) (by go_simp) (by go_simp) (eqAEv (d + 0) w _ _ _ _ _ _ _ _)
theorem eqInp (x y : In) : ∀ w, (Op.equalIn 10000 39 (.agg (inc x).toArray) (.agg (inc y).toArray)).run Tryz.prog w = .ok (decide (x = y)) w := fun w => by
  obtain ⟨a, b, c, d, f⟩ := x
  obtain ⟨a', b', c', d', f'⟩ := y
  have h := eqAIn 9997 w a a' b b' c c' d d' (U f) (U f')
  have e : decide ((a, b, c, d, f) = (a', b', c', d', f')) = (a == a' && (b == b' && (c == c' && (d == d' && (U f == U f'))))) := by
    rw [U_eq]
    simp only [Prod.mk.injEq]
    rw [Bool.eq_iff_iff]; simp
  rw [e]
  exact h
set_option linter.unusedVariables false
set_option linter.unusedSimpArgs false
attribute [local irreducible] Ops Ex Spec T V QO OA Rn OS
theorem cloneI (H : HP) (a : Option Addr) (xs : List (In)) (cap : Nat) [hr : RdC H a (xs.flatMap inc)] (hx : xs.length ≤ 1000000) : Spec Tryz.prog 45 [.slice a xs.length cap] H (X := Option Addr × Nat) (fun x => .slice x.1 xs.length x.2) (fun x => xs.length ≤ x.2) (fun x => ow 39 5 x.1 xs.length x.2 (xs.flatMap inc) * H) := by
  refine spec_of Tryz.func45 rfl Tryz.ntmps45 rfl ?_
  cases a with
  | none =>
    by_cases hxs : xs = []
    · subst hxs
      have hn : (Option.isNone (none : Option Addr)) = true := rfl
      repeat' (first | (refine rG 0 [0] ?_; ((try (refine wK ?_; intro _)))) | (refine rG 1 [0, 4] ?_; ((try refine wO ?_) <;> (try (refine o_eqSN (by decide) rfl Tryz.underlying55 ?_)) <;> (try (refine wK ?_; intro _)))) | (refine rG 2 [2] ?_; ((try (refine wK ?_; intro _)))) | refine wC ?_ | (refine ex_split rfl ?_ ?_ <;> intro hc))
      exact fin (.inr rfl) (none, 0) (resl1 rfl (rv_tmp rfl)) (Nat.le_refl _) (Ent.ow_none _ _ _)
    · refine Ex.rd_some (a := none) (l := xs.flatMap inc) (by rw [flat_len inc_len]; have := List.length_pos_iff.2 hxs; omega) (fun ad ha => by cases ha)
  | some ad =>
    repeat' (first | (refine rG 0 [0] ?_; ((try (refine wK ?_; intro _)))) | (refine rG 1 [0, 4] ?_; ((try refine wO ?_) <;> (try (refine o_eqSN (by decide) rfl Tryz.underlying55 ?_)) <;> (try (refine wK ?_; intro _)))) | (refine rG 2 [2] ?_; ((try (refine wK ?_; intro _)))) | (refine rG 3 [2] ?_; ((try ((refine o_buildSlice (by decide) rfl rfl rfl (fun _ => ?_)))) <;> (try refine wO ?_) <;> (try (refine o_copyT (cells := inc) (ys := xs) inc_len inc_one (by decide) rfl rfl rfl rfl rfl (by omega) (by simp only [maxLen]; omega) (fun a' cap' hc => ?_))) <;> (try (refine wK ?_; intro _)))) | refine wC ?_ | (refine ex_split rfl ?_ ?_ <;> intro hc))
    exact fin (.inr rfl) (_, _) (resl1 rfl (rv_tmp rfl)) hc (Ent.refl _)
theorem cloneR (H : HP) (a : Option Addr) (xs : List (Rw)) (cap : Nat) [hr : RdC H a (xs.flatMap rwc)] (hx : xs.length ≤ 1000000) : Spec Tryz.prog 73 [.slice a xs.length cap] H (X := Option Addr × Nat) (fun x => .slice x.1 xs.length x.2) (fun x => xs.length ≤ x.2) (fun x => ow 67 5 x.1 xs.length x.2 (xs.flatMap rwc) * H) := by
  refine spec_of Tryz.func73 rfl Tryz.ntmps73 rfl ?_
  cases a with
  | none =>
    by_cases hxs : xs = []
    · subst hxs
      have hn : (Option.isNone (none : Option Addr)) = true := rfl
      repeat' (first | (refine rG 0 [0] ?_; ((try (refine wK ?_; intro _)))) | (refine rG 1 [0, 4] ?_; ((try refine wO ?_) <;> (try (refine o_eqSN (by decide) rfl Tryz.underlying46 ?_)) <;> (try (refine wK ?_; intro _)))) | (refine rG 2 [2] ?_; ((try (refine wK ?_; intro _)))) | refine wC ?_ | (refine ex_split rfl ?_ ?_ <;> intro hc))
      exact fin (.inr rfl) (none, 0) (resl1 rfl (rv_tmp rfl)) (Nat.le_refl _) (Ent.ow_none _ _ _)
    · refine Ex.rd_some (a := none) (l := xs.flatMap rwc) (by rw [flat_len rwc_len]; have := List.length_pos_iff.2 hxs; omega) (fun ad ha => by cases ha)
  | some ad =>
    repeat' (first | (refine rG 0 [0] ?_; ((try (refine wK ?_; intro _)))) | (refine rG 1 [0, 4] ?_; ((try refine wO ?_) <;> (try (refine o_eqSN (by decide) rfl Tryz.underlying46 ?_)) <;> (try (refine wK ?_; intro _)))) | (refine rG 2 [2] ?_; ((try (refine wK ?_; intro _)))) | (refine rG 3 [2] ?_; ((try ((refine o_buildSlice (by decide) rfl rfl rfl (fun _ => ?_)))) <;> (try refine wO ?_) <;> (try (refine o_copyT (cells := rwc) (ys := xs) rwc_len rwc_one (by decide) rfl rfl rfl rfl rfl (by omega) (by simp only [maxLen]; omega) (fun a' cap' hc => ?_))) <;> (try (refine wK ?_; intro _)))) | refine wC ?_ | (refine ex_split rfl ?_ ?_ <;> intro hc))
    exact fin (.inr rfl) (_, _) (resl1 rfl (rv_tmp rfl)) hc (Ent.refl _)
theorem cloneO (H : HP) (a : Option Addr) (xs : List (Int × Int)) (cap : Nat) [hr : RdC H a (xs.flatMap oc)] (hx : xs.length ≤ 1000000) : Spec Tryz.prog 75 [.slice a xs.length cap] H (X := Option Addr × Nat) (fun x => .slice x.1 xs.length x.2) (fun x => xs.length ≤ x.2) (fun x => ow 159 2 x.1 xs.length x.2 (xs.flatMap oc) * H) := by
  refine spec_of Tryz.func75 rfl Tryz.ntmps75 rfl ?_
  cases a with
  | none =>
    by_cases hxs : xs = []
    · subst hxs
      have hn : (Option.isNone (none : Option Addr)) = true := rfl
      repeat' (first | (refine rG 0 [0] ?_; ((try (refine wK ?_; intro _)))) | (refine rG 1 [0, 4] ?_; ((try refine wO ?_) <;> (try (refine o_eqSN (by decide) rfl Tryz.underlying31 ?_)) <;> (try (refine wK ?_; intro _)))) | (refine rG 2 [2] ?_; ((try (refine wK ?_; intro _)))) | refine wC ?_ | (refine ex_split rfl ?_ ?_ <;> intro hc))
      exact fin (.inr rfl) (none, 0) (resl1 rfl (rv_tmp rfl)) (Nat.le_refl _) (Ent.ow_none _ _ _)
    · refine Ex.rd_some (a := none) (l := xs.flatMap oc) (by rw [flat_len oc_len]; have := List.length_pos_iff.2 hxs; omega) (fun ad ha => by cases ha)
  | some ad =>
    repeat' (first | (refine rG 0 [0] ?_; ((try (refine wK ?_; intro _)))) | (refine rG 1 [0, 4] ?_; ((try refine wO ?_) <;> (try (refine o_eqSN (by decide) rfl Tryz.underlying31 ?_)) <;> (try (refine wK ?_; intro _)))) | (refine rG 2 [2] ?_; ((try (refine wK ?_; intro _)))) | (refine rG 3 [2] ?_; ((try ((refine o_buildSlice (by decide) rfl rfl rfl (fun _ => ?_)))) <;> (try refine wO ?_) <;> (try (refine o_copyT (cells := oc) (ys := xs) oc_len oc_one (by decide) rfl rfl rfl rfl rfl (by omega) (by simp only [maxLen]; omega) (fun a' cap' hc => ?_))) <;> (try (refine wK ?_; intro _)))) | refine wC ?_ | (refine ex_split rfl ?_ ?_ <;> intro hc))
    exact fin (.inr rfl) (_, _) (resl1 rfl (rv_tmp rfl)) hc (Ent.refl _)
theorem cloneK (H : HP) (a : Option Addr) (xs : List (Sk)) (cap : Nat) [hr : RdC H a (xs.flatMap sc)] (hx : xs.length ≤ 1000000) : Spec Tryz.prog 37 [.slice a xs.length cap] H (X := Option Addr × Nat) (fun x => .slice x.1 xs.length x.2) (fun x => xs.length ≤ x.2) (fun x => ow 74 5 x.1 xs.length x.2 (xs.flatMap sc) * H) := by
  refine spec_of Tryz.func37 rfl Tryz.ntmps37 rfl ?_
  cases a with
  | none =>
    by_cases hxs : xs = []
    · subst hxs
      have hn : (Option.isNone (none : Option Addr)) = true := rfl
      repeat' (first | (refine rG 0 [0] ?_; ((try (refine wK ?_; intro _)))) | (refine rG 1 [0, 4] ?_; ((try refine wO ?_) <;> (try (refine o_eqSN (by decide) rfl Tryz.underlying25 ?_)) <;> (try (refine wK ?_; intro _)))) | (refine rG 2 [2] ?_; ((try (refine wK ?_; intro _)))) | refine wC ?_ | (refine ex_split rfl ?_ ?_ <;> intro hc))
      exact fin (.inr rfl) (none, 0) (resl1 rfl (rv_tmp rfl)) (Nat.le_refl _) (Ent.ow_none _ _ _)
    · refine Ex.rd_some (a := none) (l := xs.flatMap sc) (by rw [flat_len sc_len]; have := List.length_pos_iff.2 hxs; omega) (fun ad ha => by cases ha)
  | some ad =>
    repeat' (first | (refine rG 0 [0] ?_; ((try (refine wK ?_; intro _)))) | (refine rG 1 [0, 4] ?_; ((try refine wO ?_) <;> (try (refine o_eqSN (by decide) rfl Tryz.underlying25 ?_)) <;> (try (refine wK ?_; intro _)))) | (refine rG 2 [2] ?_; ((try (refine wK ?_; intro _)))) | (refine rG 3 [2] ?_; ((try ((refine o_buildSlice (by decide) rfl rfl rfl (fun _ => ?_)))) <;> (try refine wO ?_) <;> (try (refine o_copyT (cells := sc) (ys := xs) sc_len sc_one (by decide) rfl rfl rfl rfl rfl (by omega) (by simp only [maxLen]; omega) (fun a' cap' hc => ?_))) <;> (try (refine wK ?_; intro _)))) | refine wC ?_ | (refine ex_split rfl ?_ ?_ <;> intro hc))
    exact fin (.inr rfl) (_, _) (resl1 rfl (rv_tmp rfl)) hc (Ent.refl _)
theorem cloneP (H : HP) (a : Option Addr) (xs : List (Int × Pt)) (cap : Nat) [hr : RdC H a (xs.flatMap potc)] (hx : xs.length ≤ 1000000) : Spec Tryz.prog 57 [.slice a xs.length cap] H (X := Option Addr × Nat) (fun x => .slice x.1 xs.length x.2) (fun x => xs.length ≤ x.2) (fun x => ow 108 4 x.1 xs.length x.2 (xs.flatMap potc) * H) := by
  refine spec_of Tryz.func57 rfl Tryz.ntmps57 rfl ?_
  cases a with
  | none =>
    by_cases hxs : xs = []
    · subst hxs
      have hn : (Option.isNone (none : Option Addr)) = true := rfl
      repeat' (first | (refine rG 0 [0] ?_; ((try (refine wK ?_; intro _)))) | (refine rG 1 [0, 4] ?_; ((try refine wO ?_) <;> (try (refine o_eqSN (by decide) rfl Tryz.underlying100 ?_)) <;> (try (refine wK ?_; intro _)))) | (refine rG 2 [2] ?_; ((try (refine wK ?_; intro _)))) | refine wC ?_ | (refine ex_split rfl ?_ ?_ <;> intro hc))
      exact fin (.inr rfl) (none, 0) (resl1 rfl (rv_tmp rfl)) (Nat.le_refl _) (Ent.ow_none _ _ _)
    · refine Ex.rd_some (a := none) (l := xs.flatMap potc) (by rw [flat_len potc_len]; have := List.length_pos_iff.2 hxs; omega) (fun ad ha => by cases ha)
  | some ad =>
    repeat' (first | (refine rG 0 [0] ?_; ((try (refine wK ?_; intro _)))) | (refine rG 1 [0, 4] ?_; ((try refine wO ?_) <;> (try (refine o_eqSN (by decide) rfl Tryz.underlying100 ?_)) <;> (try (refine wK ?_; intro _)))) | (refine rG 2 [2] ?_; ((try (refine wK ?_; intro _)))) | (refine rG 3 [2] ?_; ((try ((refine o_buildSlice (by decide) rfl rfl rfl (fun _ => ?_)))) <;> (try refine wO ?_) <;> (try (refine o_copyT (cells := potc) (ys := xs) potc_len potc_one (by decide) rfl rfl rfl rfl rfl (by omega) (by simp only [maxLen]; omega) (fun a' cap' hc => ?_))) <;> (try (refine wK ?_; intro _)))) | refine wC ?_ | (refine ex_split rfl ?_ ?_ <;> intro hc))
    exact fin (.inr rfl) (_, _) (resl1 rfl (rv_tmp rfl)) hc (Ent.refl _)
theorem sameR (H : HP) (a b : Option Addr) (l m : List (Rw)) (ca cb : Nat) {cs ds : List Value} [ha : RdC H a cs] [hb : RdC H b ds] (hcs : cs = l.flatMap rwc) (hds : ds = m.flatMap rwc) (hl : l.length ≤ 1000000) :
    Spec Tryz.prog 15 [.slice a l.length ca, .slice b m.length cb] H (X := Unit) (fun _ => .bool (decide (l = m))) (fun _ => True) (fun _ => H) := by
  subst hcs; subst hds
  by_cases h : l.length = m.length
  · have hd : ((l.length : Int) != (m.length : Int)) = false := by simp [h]
    refine spec_of Tryz.func15 rfl Tryz.ntmps15 rfl ?_
    repeat' (first | (refine rG 0 [0, 1] ?_; ((try (refine wK ?_; intro _)))) | (refine rG 1 [0, 1, 10] ?_; ((try (refine wK ?_; intro _)))) | (refine rG 2 [4] ?_; ((try (refine wK ?_; intro _)))) | (refine rG 3 [0, 1, 5] ?_; ((try (refine wK ?_; intro _)))) | refine wC ?_ | (refine ex_split rfl ?_ ?_ <;> intro hc))
    refine ex_loop (fun mm e H' => ∃ g, ∃ i : Nat, e = put (put (put g 0 (.slice a l.length ca)) 1 (.slice b m.length cb)) 5 (.int .i64 (i : Int)) ∧ H' = H ∧ i ≤ l.length ∧ mm = l.length - i ∧ l.take i = m.take i) (m := l.length) ⟨_, 0, rfl, rfl, by omega, by omega, rfl⟩ ?_
    rintro mm e H' ⟨g, i, rfl, rfl, hi, rfl, hs⟩
    by_cases hlt : i < l.length
    · have hltm : i < m.length := by omega
      have hd : decide ((i : Int) < (l.length : Int)) = true := by simp; omega
      have h0 : 0 ≤ (i : Int) := by omega
      have h1 : (i : Int) < (l.length : Int) := by omega
      have h2 : (i : Int) < (m.length : Int) := by omega
      refine Ex.rd_some (a := a) (l := l.flatMap rwc) (by rw [flat_len rwc_len]; omega) (fun ad hha => ?_)
      subst hha
      refine Ex.rd_some (a := b) (l := m.flatMap rwc) (by rw [flat_len rwc_len]; omega) (fun bd hhb => ?_)
      subst hhb
      have hv1 : sub (l.flatMap rwc) ((i : Int).toNat * 5) 5 = some (rwc l[i]) := by rw [Int.toNat_natCast]; exact sub_flat rwc_len l i hlt
      have hv2 : sub (m.flatMap rwc) ((i : Int).toNat * 5) 5 = some (rwc m[i]) := by rw [Int.toNat_natCast]; exact sub_flat rwc_len m i hltm
      have e1 : IntKind.i64.wrap ((i : Int) + 1) = ((i + 1 : Nat) : Int) := by rw [IntKind.wrap_i64]; omega
      by_cases he : l[i] = m[i]
      · have hde : (!decide (l[i] = m[i])) = false := by simpa using he
        repeat' (first | (refine rG 4 [0, 1, 5, 14] ?_; ((try (refine wK ?_; intro _)))) | (refine ex_quietk (id := 6) (ts := [0, 1, 5, 25]) (by kernel_rfl) ?_; ((try (first | refine q_mv (v := .slice _ _ _) (by decide) rfl ?_ | refine q_mv (by decide) rfl ?_)) <;> (try (first | refine q_mv (v := .int _ _) (by decide) rfl ?_ | refine q_mv (by decide) rfl ?_)) <;> (try (refine q_index (by decide) rfl rfl (by first | decide | assumption | omega) (by first | decide | assumption | omega) ?_)) <;> (try (first | refine q_load_a (by decide) rfl rfl ?_ | refine q_load_ra (by decide) rfl (by assumption) ?_ | refine q_load_ra (by decide) rfl rfl ?_)) <;> (try (first | refine q_mv (v := .slice _ _ _) (by decide) rfl ?_ | refine q_mv (by decide) rfl ?_)) <;> (try (first | refine q_mv (v := .int _ _) (by decide) rfl ?_ | refine q_mv (by decide) rfl ?_)) <;> (try (refine q_index (by decide) rfl rfl (by first | decide | assumption | omega) (by first | decide | assumption | omega) ?_)) <;> (try (first | refine q_load_a (by decide) rfl rfl ?_ | refine q_load_ra (by decide) rfl (by assumption) ?_ | refine q_load_ra (by decide) rfl rfl ?_)) <;> (try (refine q_neA (by decide) rfl rfl (by kernel_rfl) (eqRow _ _) ?_)) <;> (try (refine q_nilk ?_; intro _)) <;> (try ((first | refine keep_cons (v := .slice _ _ _) rfl ?_ | refine keep_cons (v := _) rfl ?_) <;> (first | refine keep_cons (v := .slice _ _ _) rfl ?_ | refine keep_cons (v := _) rfl ?_) <;> (first | refine keep_cons (v := .int _ _) rfl ?_ | refine keep_cons (v := _) rfl ?_) <;> (first | refine keep_cons (v := .bool _) rfl ?_ | refine keep_cons (v := _) rfl ?_))) <;> (try refine keep_nil ?_))) | (refine rG 5 [0, 1, 5] ?_; ((try (refine wK ?_; intro _)))) | refine wC ?_ | (refine ex_split rfl ?_ ?_ <;> intro hc))
        rw [e1]
        refine ⟨_, ?_, _, i + 1, rfl, rfl, by omega, rfl, ?_⟩
        · omega
        · rw [List.take_succ_eq_append_getElem hlt, List.take_succ_eq_append_getElem hltm, hs, he]
      · have hde : (!decide (l[i] = m[i])) = true := by simpa using he
        have hne : decide (l = m) = false := by
          refine decide_eq_false (fun h => he ?_)
          subst h; rfl
        repeat' (first | (refine rG 4 [0, 1, 5, 14] ?_; ((try (refine wK ?_; intro _)))) | (refine ex_quietk (id := 6) (ts := [0, 1, 5, 25]) (by kernel_rfl) ?_; ((try (first | refine q_mv (v := .slice _ _ _) (by decide) rfl ?_ | refine q_mv (by decide) rfl ?_)) <;> (try (first | refine q_mv (v := .int _ _) (by decide) rfl ?_ | refine q_mv (by decide) rfl ?_)) <;> (try (refine q_index (by decide) rfl rfl (by first | decide | assumption | omega) (by first | decide | assumption | omega) ?_)) <;> (try (first | refine q_load_a (by decide) rfl rfl ?_ | refine q_load_ra (by decide) rfl (by assumption) ?_ | refine q_load_ra (by decide) rfl rfl ?_)) <;> (try (first | refine q_mv (v := .slice _ _ _) (by decide) rfl ?_ | refine q_mv (by decide) rfl ?_)) <;> (try (first | refine q_mv (v := .int _ _) (by decide) rfl ?_ | refine q_mv (by decide) rfl ?_)) <;> (try (refine q_index (by decide) rfl rfl (by first | decide | assumption | omega) (by first | decide | assumption | omega) ?_)) <;> (try (first | refine q_load_a (by decide) rfl rfl ?_ | refine q_load_ra (by decide) rfl (by assumption) ?_ | refine q_load_ra (by decide) rfl rfl ?_)) <;> (try (refine q_neA (by decide) rfl rfl (by kernel_rfl) (eqRow _ _) ?_)) <;> (try (refine q_nilk ?_; intro _)) <;> (try ((first | refine keep_cons (v := .slice _ _ _) rfl ?_ | refine keep_cons (v := _) rfl ?_) <;> (first | refine keep_cons (v := .slice _ _ _) rfl ?_ | refine keep_cons (v := _) rfl ?_) <;> (first | refine keep_cons (v := .int _ _) rfl ?_ | refine keep_cons (v := _) rfl ?_) <;> (first | refine keep_cons (v := .bool _) rfl ?_ | refine keep_cons (v := _) rfl ?_))) <;> (try refine keep_nil ?_))) | (refine rG 7 [4] ?_; ((try (refine wK ?_; intro _)))) | refine wC ?_ | (refine ex_split rfl ?_ ?_ <;> intro hc))
        exact fin (.inr rfl) () (resl1 rfl (rv_tmp (by rw [hne]; rfl))) trivial (Ent.refl _)
    · have hil : i = l.length := by omega
      subst hil
      have hd : decide ((l.length : Int) < (l.length : Int)) = false := by simp
      have hlm : decide (l = m) = true := decide_eq_true (by rw [List.take_length] at hs; rw [hs, h, List.take_length])
      repeat' (first | (refine rG 4 [0, 1, 5, 14] ?_; ((try (refine wK ?_; intro _)))) | (refine rG 8 [4] ?_; ((try (refine wK ?_; intro _)))) | refine wC ?_ | (refine ex_split rfl ?_ ?_ <;> intro hc))
      exact fin (.inr rfl) () (resl1 rfl (rv_tmp (by rw [hlm]; rfl))) trivial (Ent.refl _)
  · have hd : ((l.length : Int) != (m.length : Int)) = true := by simp; omega
    have hne : decide (l = m) = false := decide_eq_false (fun e => h (by rw [e]))
    refine spec_of Tryz.func15 rfl Tryz.ntmps15 rfl ?_
    repeat' (first | (refine rG 0 [0, 1] ?_; ((try (refine wK ?_; intro _)))) | (refine rG 1 [0, 1, 10] ?_; ((try (refine wK ?_; intro _)))) | (refine rG 2 [4] ?_; ((try (refine wK ?_; intro _)))) | refine wC ?_ | (refine ex_split rfl ?_ ?_ <;> intro hc))
    exact fin (.inr rfl) () (resl1 rfl (rv_tmp (by rw [hne]; rfl))) trivial (Ent.refl _)
theorem sameL (H : HP) (a b : Option Addr) (l m : List (Bd.Rl)) (ca cb : Nat) {cs ds : List Value} [ha : RdC H a cs] [hb : RdC H b ds] (hcs : cs = l.flatMap Bd.lc) (hds : ds = m.flatMap Bd.lc) (hl : l.length ≤ 1000000) :
    Spec Tryz.prog 59 [.slice a l.length ca, .slice b m.length cb] H (X := Unit) (fun _ => .bool (decide (l = m))) (fun _ => True) (fun _ => H) := by
  subst hcs; subst hds
  by_cases h : l.length = m.length
  · have hd : ((l.length : Int) != (m.length : Int)) = false := by simp [h]
    refine spec_of Tryz.func59 rfl Tryz.ntmps59 rfl ?_
    repeat' (first | (refine rG 0 [0, 1] ?_; ((try (refine wK ?_; intro _)))) | (refine rG 1 [0, 1, 10] ?_; ((try (refine wK ?_; intro _)))) | (refine rG 2 [4] ?_; ((try (refine wK ?_; intro _)))) | (refine rG 3 [0, 1, 5] ?_; ((try (refine wK ?_; intro _)))) | refine wC ?_ | (refine ex_split rfl ?_ ?_ <;> intro hc))
    refine ex_loop (fun mm e H' => ∃ g, ∃ i : Nat, e = put (put (put g 0 (.slice a l.length ca)) 1 (.slice b m.length cb)) 5 (.int .i64 (i : Int)) ∧ H' = H ∧ i ≤ l.length ∧ mm = l.length - i ∧ l.take i = m.take i) (m := l.length) ⟨_, 0, rfl, rfl, by omega, by omega, rfl⟩ ?_
    rintro mm e H' ⟨g, i, rfl, rfl, hi, rfl, hs⟩
    by_cases hlt : i < l.length
    · have hltm : i < m.length := by omega
      have hd : decide ((i : Int) < (l.length : Int)) = true := by simp; omega
      have h0 : 0 ≤ (i : Int) := by omega
      have h1 : (i : Int) < (l.length : Int) := by omega
      have h2 : (i : Int) < (m.length : Int) := by omega
      refine Ex.rd_some (a := a) (l := l.flatMap Bd.lc) (by rw [flat_len Bd.lc_len]; omega) (fun ad hha => ?_)
      subst hha
      refine Ex.rd_some (a := b) (l := m.flatMap Bd.lc) (by rw [flat_len Bd.lc_len]; omega) (fun bd hhb => ?_)
      subst hhb
      have hv1 : sub (l.flatMap Bd.lc) ((i : Int).toNat * 4) 4 = some (Bd.lc l[i]) := by rw [Int.toNat_natCast]; exact sub_flat Bd.lc_len l i hlt
      have hv2 : sub (m.flatMap Bd.lc) ((i : Int).toNat * 4) 4 = some (Bd.lc m[i]) := by rw [Int.toNat_natCast]; exact sub_flat Bd.lc_len m i hltm
      have e1 : IntKind.i64.wrap ((i : Int) + 1) = ((i + 1 : Nat) : Int) := by rw [IntKind.wrap_i64]; omega
      by_cases he : l[i] = m[i]
      · have hde : (!decide (l[i] = m[i])) = false := by simpa using he
        repeat' (first | (refine rG 4 [0, 1, 5, 14] ?_; ((try (refine wK ?_; intro _)))) | (refine ex_quietk (id := 6) (ts := [0, 1, 5, 25]) (by kernel_rfl) ?_; ((try (first | refine q_mv (v := .slice _ _ _) (by decide) rfl ?_ | refine q_mv (by decide) rfl ?_)) <;> (try (first | refine q_mv (v := .int _ _) (by decide) rfl ?_ | refine q_mv (by decide) rfl ?_)) <;> (try (refine q_index (by decide) rfl rfl (by first | decide | assumption | omega) (by first | decide | assumption | omega) ?_)) <;> (try (first | refine q_load_a (by decide) rfl rfl ?_ | refine q_load_ra (by decide) rfl (by assumption) ?_ | refine q_load_ra (by decide) rfl rfl ?_)) <;> (try (first | refine q_mv (v := .slice _ _ _) (by decide) rfl ?_ | refine q_mv (by decide) rfl ?_)) <;> (try (first | refine q_mv (v := .int _ _) (by decide) rfl ?_ | refine q_mv (by decide) rfl ?_)) <;> (try (refine q_index (by decide) rfl rfl (by first | decide | assumption | omega) (by first | decide | assumption | omega) ?_)) <;> (try (first | refine q_load_a (by decide) rfl rfl ?_ | refine q_load_ra (by decide) rfl (by assumption) ?_ | refine q_load_ra (by decide) rfl rfl ?_)) <;> (try (refine q_neA (by decide) rfl rfl (by kernel_rfl) (eqRel _ _) ?_)) <;> (try (refine q_nilk ?_; intro _)) <;> (try ((first | refine keep_cons (v := .slice _ _ _) rfl ?_ | refine keep_cons (v := _) rfl ?_) <;> (first | refine keep_cons (v := .slice _ _ _) rfl ?_ | refine keep_cons (v := _) rfl ?_) <;> (first | refine keep_cons (v := .int _ _) rfl ?_ | refine keep_cons (v := _) rfl ?_) <;> (first | refine keep_cons (v := .bool _) rfl ?_ | refine keep_cons (v := _) rfl ?_))) <;> (try refine keep_nil ?_))) | (refine rG 5 [0, 1, 5] ?_; ((try (refine wK ?_; intro _)))) | refine wC ?_ | (refine ex_split rfl ?_ ?_ <;> intro hc))
        rw [e1]
        refine ⟨_, ?_, _, i + 1, rfl, rfl, by omega, rfl, ?_⟩
        · omega
        · rw [List.take_succ_eq_append_getElem hlt, List.take_succ_eq_append_getElem hltm, hs, he]
      · have hde : (!decide (l[i] = m[i])) = true := by simpa using he
        have hne : decide (l = m) = false := by
          refine decide_eq_false (fun h => he ?_)
          subst h; rfl
        repeat' (first | (refine rG 4 [0, 1, 5, 14] ?_; ((try (refine wK ?_; intro _)))) | (refine ex_quietk (id := 6) (ts := [0, 1, 5, 25]) (by kernel_rfl) ?_; ((try (first | refine q_mv (v := .slice _ _ _) (by decide) rfl ?_ | refine q_mv (by decide) rfl ?_)) <;> (try (first | refine q_mv (v := .int _ _) (by decide) rfl ?_ | refine q_mv (by decide) rfl ?_)) <;> (try (refine q_index (by decide) rfl rfl (by first | decide | assumption | omega) (by first | decide | assumption | omega) ?_)) <;> (try (first | refine q_load_a (by decide) rfl rfl ?_ | refine q_load_ra (by decide) rfl (by assumption) ?_ | refine q_load_ra (by decide) rfl rfl ?_)) <;> (try (first | refine q_mv (v := .slice _ _ _) (by decide) rfl ?_ | refine q_mv (by decide) rfl ?_)) <;> (try (first | refine q_mv (v := .int _ _) (by decide) rfl ?_ | refine q_mv (by decide) rfl ?_)) <;> (try (refine q_index (by decide) rfl rfl (by first | decide | assumption | omega) (by first | decide | assumption | omega) ?_)) <;> (try (first | refine q_load_a (by decide) rfl rfl ?_ | refine q_load_ra (by decide) rfl (by assumption) ?_ | refine q_load_ra (by decide) rfl rfl ?_)) <;> (try (refine q_neA (by decide) rfl rfl (by kernel_rfl) (eqRel _ _) ?_)) <;> (try (refine q_nilk ?_; intro _)) <;> (try ((first | refine keep_cons (v := .slice _ _ _) rfl ?_ | refine keep_cons (v := _) rfl ?_) <;> (first | refine keep_cons (v := .slice _ _ _) rfl ?_ | refine keep_cons (v := _) rfl ?_) <;> (first | refine keep_cons (v := .int _ _) rfl ?_ | refine keep_cons (v := _) rfl ?_) <;> (first | refine keep_cons (v := .bool _) rfl ?_ | refine keep_cons (v := _) rfl ?_))) <;> (try refine keep_nil ?_))) | (refine rG 7 [4] ?_; ((try (refine wK ?_; intro _)))) | refine wC ?_ | (refine ex_split rfl ?_ ?_ <;> intro hc))
        exact fin (.inr rfl) () (resl1 rfl (rv_tmp (by rw [hne]; rfl))) trivial (Ent.refl _)
    · have hil : i = l.length := by omega
      subst hil
      have hd : decide ((l.length : Int) < (l.length : Int)) = false := by simp
      have hlm : decide (l = m) = true := decide_eq_true (by rw [List.take_length] at hs; rw [hs, h, List.take_length])
      repeat' (first | (refine rG 4 [0, 1, 5, 14] ?_; ((try (refine wK ?_; intro _)))) | (refine rG 8 [4] ?_; ((try (refine wK ?_; intro _)))) | refine wC ?_ | (refine ex_split rfl ?_ ?_ <;> intro hc))
      exact fin (.inr rfl) () (resl1 rfl (rv_tmp (by rw [hlm]; rfl))) trivial (Ent.refl _)
  · have hd : ((l.length : Int) != (m.length : Int)) = true := by simp; omega
    have hne : decide (l = m) = false := decide_eq_false (fun e => h (by rw [e]))
    refine spec_of Tryz.func59 rfl Tryz.ntmps59 rfl ?_
    repeat' (first | (refine rG 0 [0, 1] ?_; ((try (refine wK ?_; intro _)))) | (refine rG 1 [0, 1, 10] ?_; ((try (refine wK ?_; intro _)))) | (refine rG 2 [4] ?_; ((try (refine wK ?_; intro _)))) | refine wC ?_ | (refine ex_split rfl ?_ ?_ <;> intro hc))
    exact fin (.inr rfl) () (resl1 rfl (rv_tmp (by rw [hne]; rfl))) trivial (Ent.refl _)
theorem sameI (H : HP) (a b : Option Addr) (l m : List (In)) (ca cb : Nat) {cs ds : List Value} [ha : RdC H a cs] [hb : RdC H b ds] (hcs : cs = l.flatMap inc) (hds : ds = m.flatMap inc) (hl : l.length ≤ 1000000) :
    Spec Tryz.prog 60 [.slice a l.length ca, .slice b m.length cb] H (X := Unit) (fun _ => .bool (decide (l = m))) (fun _ => True) (fun _ => H) := by
  subst hcs; subst hds
  by_cases h : l.length = m.length
  · have hd : ((l.length : Int) != (m.length : Int)) = false := by simp [h]
    refine spec_of Tryz.func60 rfl Tryz.ntmps60 rfl ?_
    repeat' (first | (refine rG 0 [0, 1] ?_; ((try (refine wK ?_; intro _)))) | (refine rG 1 [0, 1, 10] ?_; ((try (refine wK ?_; intro _)))) | (refine rG 2 [4] ?_; ((try (refine wK ?_; intro _)))) | (refine rG 3 [0, 1, 5] ?_; ((try (refine wK ?_; intro _)))) | refine wC ?_ | (refine ex_split rfl ?_ ?_ <;> intro hc))
    refine ex_loop (fun mm e H' => ∃ g, ∃ i : Nat, e = put (put (put g 0 (.slice a l.length ca)) 1 (.slice b m.length cb)) 5 (.int .i64 (i : Int)) ∧ H' = H ∧ i ≤ l.length ∧ mm = l.length - i ∧ l.take i = m.take i) (m := l.length) ⟨_, 0, rfl, rfl, by omega, by omega, rfl⟩ ?_
    rintro mm e H' ⟨g, i, rfl, rfl, hi, rfl, hs⟩
    by_cases hlt : i < l.length
    · have hltm : i < m.length := by omega
      have hd : decide ((i : Int) < (l.length : Int)) = true := by simp; omega
      have h0 : 0 ≤ (i : Int) := by omega
      have h1 : (i : Int) < (l.length : Int) := by omega
      have h2 : (i : Int) < (m.length : Int) := by omega
      refine Ex.rd_some (a := a) (l := l.flatMap inc) (by rw [flat_len inc_len]; omega) (fun ad hha => ?_)
      subst hha
      refine Ex.rd_some (a := b) (l := m.flatMap inc) (by rw [flat_len inc_len]; omega) (fun bd hhb => ?_)
      subst hhb
      have hv1 : sub (l.flatMap inc) ((i : Int).toNat * 5) 5 = some (inc l[i]) := by rw [Int.toNat_natCast]; exact sub_flat inc_len l i hlt
      have hv2 : sub (m.flatMap inc) ((i : Int).toNat * 5) 5 = some (inc m[i]) := by rw [Int.toNat_natCast]; exact sub_flat inc_len m i hltm
      have e1 : IntKind.i64.wrap ((i : Int) + 1) = ((i + 1 : Nat) : Int) := by rw [IntKind.wrap_i64]; omega
      by_cases he : l[i] = m[i]
      · have hde : (!decide (l[i] = m[i])) = false := by simpa using he
        repeat' (first | (refine rG 4 [0, 1, 5, 14] ?_; ((try (refine wK ?_; intro _)))) | (refine ex_quietk (id := 6) (ts := [0, 1, 5, 25]) (by kernel_rfl) ?_; ((try (first | refine q_mv (v := .slice _ _ _) (by decide) rfl ?_ | refine q_mv (by decide) rfl ?_)) <;> (try (first | refine q_mv (v := .int _ _) (by decide) rfl ?_ | refine q_mv (by decide) rfl ?_)) <;> (try (refine q_index (by decide) rfl rfl (by first | decide | assumption | omega) (by first | decide | assumption | omega) ?_)) <;> (try (first | refine q_load_a (by decide) rfl rfl ?_ | refine q_load_ra (by decide) rfl (by assumption) ?_ | refine q_load_ra (by decide) rfl rfl ?_)) <;> (try (first | refine q_mv (v := .slice _ _ _) (by decide) rfl ?_ | refine q_mv (by decide) rfl ?_)) <;> (try (first | refine q_mv (v := .int _ _) (by decide) rfl ?_ | refine q_mv (by decide) rfl ?_)) <;> (try (refine q_index (by decide) rfl rfl (by first | decide | assumption | omega) (by first | decide | assumption | omega) ?_)) <;> (try (first | refine q_load_a (by decide) rfl rfl ?_ | refine q_load_ra (by decide) rfl (by assumption) ?_ | refine q_load_ra (by decide) rfl rfl ?_)) <;> (try (refine q_neA (by decide) rfl rfl (by kernel_rfl) (eqInp _ _) ?_)) <;> (try (refine q_nilk ?_; intro _)) <;> (try ((first | refine keep_cons (v := .slice _ _ _) rfl ?_ | refine keep_cons (v := _) rfl ?_) <;> (first | refine keep_cons (v := .slice _ _ _) rfl ?_ | refine keep_cons (v := _) rfl ?_) <;> (first | refine keep_cons (v := .int _ _) rfl ?_ | refine keep_cons (v := _) rfl ?_) <;> (first | refine keep_cons (v := .bool _) rfl ?_ | refine keep_cons (v := _) rfl ?_))) <;> (try refine keep_nil ?_))) | (refine rG 5 [0, 1, 5] ?_; ((try (refine wK ?_; intro _)))) | refine wC ?_ | (refine ex_split rfl ?_ ?_ <;> intro hc))
        rw [e1]
        refine ⟨_, ?_, _, i + 1, rfl, rfl, by omega, rfl, ?_⟩
        · omega
        · rw [List.take_succ_eq_append_getElem hlt, List.take_succ_eq_append_getElem hltm, hs, he]
      · have hde : (!decide (l[i] = m[i])) = true := by simpa using he
        have hne : decide (l = m) = false := by
          refine decide_eq_false (fun h => he ?_)
          subst h; rfl
        repeat' (first | (refine rG 4 [0, 1, 5, 14] ?_; ((try (refine wK ?_; intro _)))) | (refine ex_quietk (id := 6) (ts := [0, 1, 5, 25]) (by kernel_rfl) ?_; ((try (first | refine q_mv (v := .slice _ _ _) (by decide) rfl ?_ | refine q_mv (by decide) rfl ?_)) <;> (try (first | refine q_mv (v := .int _ _) (by decide) rfl ?_ | refine q_mv (by decide) rfl ?_)) <;> (try (refine q_index (by decide) rfl rfl (by first | decide | assumption | omega) (by first | decide | assumption | omega) ?_)) <;> (try (first | refine q_load_a (by decide) rfl rfl ?_ | refine q_load_ra (by decide) rfl (by assumption) ?_ | refine q_load_ra (by decide) rfl rfl ?_)) <;> (try (first | refine q_mv (v := .slice _ _ _) (by decide) rfl ?_ | refine q_mv (by decide) rfl ?_)) <;> (try (first | refine q_mv (v := .int _ _) (by decide) rfl ?_ | refine q_mv (by decide) rfl ?_)) <;> (try (refine q_index (by decide) rfl rfl (by first | decide | assumption | omega) (by first | decide | assumption | omega) ?_)) <;> (try (first | refine q_load_a (by decide) rfl rfl ?_ | refine q_load_ra (by decide) rfl (by assumption) ?_ | refine q_load_ra (by decide) rfl rfl ?_)) <;> (try (refine q_neA (by decide) rfl rfl (by kernel_rfl) (eqInp _ _) ?_)) <;> (try (refine q_nilk ?_; intro _)) <;> (try ((first | refine keep_cons (v := .slice _ _ _) rfl ?_ | refine keep_cons (v := _) rfl ?_) <;> (first | refine keep_cons (v := .slice _ _ _) rfl ?_ | refine keep_cons (v := _) rfl ?_) <;> (first | refine keep_cons (v := .int _ _) rfl ?_ | refine keep_cons (v := _) rfl ?_) <;> (first | refine keep_cons (v := .bool _) rfl ?_ | refine keep_cons (v := _) rfl ?_))) <;> (try refine keep_nil ?_))) | (refine rG 7 [4] ?_; ((try (refine wK ?_; intro _)))) | refine wC ?_ | (refine ex_split rfl ?_ ?_ <;> intro hc))
        exact fin (.inr rfl) () (resl1 rfl (rv_tmp (by rw [hne]; rfl))) trivial (Ent.refl _)
    · have hil : i = l.length := by omega
      subst hil
      have hd : decide ((l.length : Int) < (l.length : Int)) = false := by simp
      have hlm : decide (l = m) = true := decide_eq_true (by rw [List.take_length] at hs; rw [hs, h, List.take_length])
      repeat' (first | (refine rG 4 [0, 1, 5, 14] ?_; ((try (refine wK ?_; intro _)))) | (refine rG 8 [4] ?_; ((try (refine wK ?_; intro _)))) | refine wC ?_ | (refine ex_split rfl ?_ ?_ <;> intro hc))
      exact fin (.inr rfl) () (resl1 rfl (rv_tmp (by rw [hlm]; rfl))) trivial (Ent.refl _)
  · have hd : ((l.length : Int) != (m.length : Int)) = true := by simp; omega
    have hne : decide (l = m) = false := decide_eq_false (fun e => h (by rw [e]))
    refine spec_of Tryz.func60 rfl Tryz.ntmps60 rfl ?_
    repeat' (first | (refine rG 0 [0, 1] ?_; ((try (refine wK ?_; intro _)))) | (refine rG 1 [0, 1, 10] ?_; ((try (refine wK ?_; intro _)))) | (refine rG 2 [4] ?_; ((try (refine wK ?_; intro _)))) | refine wC ?_ | (refine ex_split rfl ?_ ?_ <;> intro hc))
    exact fin (.inr rfl) () (resl1 rfl (rv_tmp (by rw [hne]; rfl))) trivial (Ent.refl _)
theorem sameZ (H : HP) (a b : Option Addr) (l m : List (Int)) (ca cb : Nat) {cs ds : List Value} [ha : RdC H a cs] [hb : RdC H b ds] (hcs : cs = l.flatMap (cw .i64)) (hds : ds = m.flatMap (cw .i64)) (hl : l.length ≤ 1000000) :
    Spec Tryz.prog 25 [.slice a l.length ca, .slice b m.length cb] H (X := Unit) (fun _ => .bool (decide (l = m))) (fun _ => True) (fun _ => H) := by
  subst hcs; subst hds
  by_cases h : l.length = m.length
  · have hd : ((l.length : Int) != (m.length : Int)) = false := by simp [h]
    refine spec_of Tryz.func25 rfl Tryz.ntmps25 rfl ?_
    repeat' (first | (refine rG 0 [0, 1] ?_; ((try (refine wK ?_; intro _)))) | (refine rG 1 [0, 1, 10] ?_; ((try (refine wK ?_; intro _)))) | (refine rG 2 [4] ?_; ((try (refine wK ?_; intro _)))) | (refine rG 3 [0, 1, 5] ?_; ((try (refine wK ?_; intro _)))) | refine wC ?_ | (refine ex_split rfl ?_ ?_ <;> intro hc))
    refine ex_loop (fun mm e H' => ∃ g, ∃ i : Nat, e = put (put (put g 0 (.slice a l.length ca)) 1 (.slice b m.length cb)) 5 (.int .i64 (i : Int)) ∧ H' = H ∧ i ≤ l.length ∧ mm = l.length - i ∧ l.take i = m.take i) (m := l.length) ⟨_, 0, rfl, rfl, by omega, by omega, rfl⟩ ?_
    rintro mm e H' ⟨g, i, rfl, rfl, hi, rfl, hs⟩
    by_cases hlt : i < l.length
    · have hltm : i < m.length := by omega
      have hd : decide ((i : Int) < (l.length : Int)) = true := by simp; omega
      have h0 : 0 ≤ (i : Int) := by omega
      have h1 : (i : Int) < (l.length : Int) := by omega
      have h2 : (i : Int) < (m.length : Int) := by omega
      refine Ex.rd_some (a := a) (l := l.flatMap (cw .i64)) (by rw [cw_flat]; omega) (fun ad hha => ?_)
      subst hha
      refine Ex.rd_some (a := b) (l := m.flatMap (cw .i64)) (by rw [cw_flat]; omega) (fun bd hhb => ?_)
      subst hhb
      have hv1 := cw_get (k := .i64) hlt
      have hv2 := cw_get (k := .i64) hltm
      have e1 : IntKind.i64.wrap ((i : Int) + 1) = ((i + 1 : Nat) : Int) := by rw [IntKind.wrap_i64]; omega
      by_cases he : l[i] = m[i]
      · have hde : (l[i] != m[i]) = false := by simpa using he
        repeat' (first | (refine rG 4 [0, 1, 5, 14] ?_; ((try (refine wK ?_; intro _)))) | (refine rQ 6 [0, 1, 5, 25] ?_; ((try (refine wJ ?_; intro _)))) | (refine rG 5 [0, 1, 5] ?_; ((try (refine wK ?_; intro _)))) | refine wC ?_ | (refine ex_split rfl ?_ ?_ <;> intro hc))
        rw [e1]
        refine ⟨_, ?_, _, i + 1, rfl, rfl, by omega, rfl, ?_⟩
        · omega
        · rw [List.take_succ_eq_append_getElem hlt, List.take_succ_eq_append_getElem hltm, hs, he]
      · have hde : (l[i] != m[i]) = true := by simpa using he
        have hne : decide (l = m) = false := by
          refine decide_eq_false (fun h => he ?_)
          subst h; rfl
        repeat' (first | (refine rG 4 [0, 1, 5, 14] ?_; ((try (refine wK ?_; intro _)))) | (refine rQ 6 [0, 1, 5, 25] ?_; ((try (refine wJ ?_; intro _)))) | (refine rG 7 [4] ?_; ((try (refine wK ?_; intro _)))) | refine wC ?_ | (refine ex_split rfl ?_ ?_ <;> intro hc))
        exact fin (.inr rfl) () (resl1 rfl (rv_tmp (by rw [hne]; rfl))) trivial (Ent.refl _)
    · have hil : i = l.length := by omega
      subst hil
      have hd : decide ((l.length : Int) < (l.length : Int)) = false := by simp
      have hlm : decide (l = m) = true := decide_eq_true (by rw [List.take_length] at hs; rw [hs, h, List.take_length])
      repeat' (first | (refine rG 4 [0, 1, 5, 14] ?_; ((try (refine wK ?_; intro _)))) | (refine rG 8 [4] ?_; ((try (refine wK ?_; intro _)))) | refine wC ?_ | (refine ex_split rfl ?_ ?_ <;> intro hc))
      exact fin (.inr rfl) () (resl1 rfl (rv_tmp (by rw [hlm]; rfl))) trivial (Ent.refl _)
  · have hd : ((l.length : Int) != (m.length : Int)) = true := by simp; omega
    have hne : decide (l = m) = false := decide_eq_false (fun e => h (by rw [e]))
    refine spec_of Tryz.func25 rfl Tryz.ntmps25 rfl ?_
    repeat' (first | (refine rG 0 [0, 1] ?_; ((try (refine wK ?_; intro _)))) | (refine rG 1 [0, 1, 10] ?_; ((try (refine wK ?_; intro _)))) | (refine rG 2 [4] ?_; ((try (refine wK ?_; intro _)))) | refine wC ?_ | (refine ex_split rfl ?_ ?_ <;> intro hc))
    exact fin (.inr rfl) () (resl1 rfl (rv_tmp (by rw [hne]; rfl))) trivial (Ent.refl _)
theorem sameQ (H : HP) (a b : Option Addr) (l m : List (Rw)) (ca cb : Nat) {cs ds : List Value} [ha : RdC H a cs] [hb : RdC H b ds] (hcs : cs = l.flatMap rwc) (hds : ds = m.flatMap rwc) (hl : l.length ≤ 1000000) :
    Spec Tryz.prog 62 [.slice a l.length ca, .slice b m.length cb] H (X := Unit) (fun _ => .bool (decide (l = m))) (fun _ => True) (fun _ => H) := by
  subst hcs; subst hds
  by_cases h : l.length = m.length
  · have hd : ((l.length : Int) != (m.length : Int)) = false := by simp [h]
    refine spec_of Tryz.func62 rfl Tryz.ntmps62 rfl ?_
    repeat' (first | (refine rG 0 [0, 1] ?_; ((try (refine wK ?_; intro _)))) | (refine rG 1 [0, 1, 10] ?_; ((try (refine wK ?_; intro _)))) | (refine rG 2 [4] ?_; ((try (refine wK ?_; intro _)))) | (refine rG 3 [0, 1, 12, 13] ?_; ((try (refine wK ?_; intro _)))) | refine wC ?_ | (refine ex_split rfl ?_ ?_ <;> intro hc))
    refine ex_loop (fun mm e H' => ∃ g, ∃ i : Nat, e = put (put (put (put g 0 (.slice a l.length ca)) 1 (.slice b m.length cb)) 12 (.int .i64 (l.length : Int))) 13 (.int .i64 (i : Int)) ∧ H' = H ∧ i ≤ l.length ∧ mm = l.length - i ∧ l.take i = m.take i) (m := l.length) ⟨_, 0, rfl, rfl, by omega, by omega, rfl⟩ ?_
    rintro mm e H' ⟨g, i, rfl, rfl, hi, rfl, hs⟩
    by_cases hlt : i < l.length
    · have hltm : i < m.length := by omega
      have hd : decide ((i : Int) < (l.length : Int)) = true := by simp; omega
      have h0 : 0 ≤ (i : Int) := by omega
      have h1 : (i : Int) < (l.length : Int) := by omega
      have h2 : (i : Int) < (m.length : Int) := by omega
      refine Ex.rd_some (a := a) (l := l.flatMap rwc) (by rw [flat_len rwc_len]; omega) (fun ad hha => ?_)
      subst hha
      refine Ex.rd_some (a := b) (l := m.flatMap rwc) (by rw [flat_len rwc_len]; omega) (fun bd hhb => ?_)
      subst hhb
      have hv1 : sub (l.flatMap rwc) ((i : Int).toNat * 5) 5 = some (rwc l[i]) := by rw [Int.toNat_natCast]; exact sub_flat rwc_len l i hlt
      have hv2 : sub (m.flatMap rwc) ((i : Int).toNat * 5) 5 = some (rwc m[i]) := by rw [Int.toNat_natCast]; exact sub_flat rwc_len m i hltm
      have e1 : IntKind.i64.wrap ((i : Int) + 1) = ((i + 1 : Nat) : Int) := by rw [IntKind.wrap_i64]; omega
      by_cases he : l[i] = m[i]
      · have hde : (!decide (l[i] = m[i])) = false := by simpa using he
        repeat' (first | (refine rG 4 [0, 1, 12, 13, 14] ?_; ((try (refine wK ?_; intro _)))) | (refine rG 5 [0, 1, 5, 12, 13] ?_; ((try (refine wK ?_; intro _)))) | (refine ex_quietk (id := 6) (ts := [0, 1, 12, 13, 24]) (by kernel_rfl) ?_; ((try (first | refine q_mv (v := .slice _ _ _) (by decide) rfl ?_ | refine q_mv (by decide) rfl ?_)) <;> (try (first | refine q_mv (v := .int _ _) (by decide) rfl ?_ | refine q_mv (by decide) rfl ?_)) <;> (try (refine q_index (by decide) rfl rfl (by first | decide | assumption | omega) (by first | decide | assumption | omega) ?_)) <;> (try (first | refine q_load_a (by decide) rfl rfl ?_ | refine q_load_ra (by decide) rfl (by assumption) ?_ | refine q_load_ra (by decide) rfl rfl ?_)) <;> (try (first | refine q_mv (v := .slice _ _ _) (by decide) rfl ?_ | refine q_mv (by decide) rfl ?_)) <;> (try (first | refine q_mv (v := .int _ _) (by decide) rfl ?_ | refine q_mv (by decide) rfl ?_)) <;> (try (refine q_index (by decide) rfl rfl (by first | decide | assumption | omega) (by first | decide | assumption | omega) ?_)) <;> (try (first | refine q_load_a (by decide) rfl rfl ?_ | refine q_load_ra (by decide) rfl (by assumption) ?_ | refine q_load_ra (by decide) rfl rfl ?_)) <;> (try (refine q_neA (by decide) rfl rfl (by kernel_rfl) (eqRow _ _) ?_)) <;> (try (refine q_nilk ?_; intro _)) <;> (try ((first | refine keep_cons (v := .slice _ _ _) rfl ?_ | refine keep_cons (v := _) rfl ?_) <;> (first | refine keep_cons (v := .slice _ _ _) rfl ?_ | refine keep_cons (v := _) rfl ?_) <;> (first | refine keep_cons (v := .int _ _) rfl ?_ | refine keep_cons (v := _) rfl ?_) <;> (first | refine keep_cons (v := .int _ _) rfl ?_ | refine keep_cons (v := _) rfl ?_) <;> (first | refine keep_cons (v := .bool _) rfl ?_ | refine keep_cons (v := _) rfl ?_))) <;> (try refine keep_nil ?_))) | (refine rG 8 [0, 1, 12, 13] ?_; ((try (refine wK ?_; intro _)))) | refine wC ?_ | (refine ex_split rfl ?_ ?_ <;> intro hc))
        rw [e1]
        refine ⟨_, ?_, _, i + 1, rfl, rfl, by omega, rfl, ?_⟩
        · omega
        · rw [List.take_succ_eq_append_getElem hlt, List.take_succ_eq_append_getElem hltm, hs, he]
      · have hde : (!decide (l[i] = m[i])) = true := by simpa using he
        have hne : decide (l = m) = false := by
          refine decide_eq_false (fun h => he ?_)
          subst h; rfl
        repeat' (first | (refine rG 4 [0, 1, 12, 13, 14] ?_; ((try (refine wK ?_; intro _)))) | (refine rG 5 [0, 1, 5, 12, 13] ?_; ((try (refine wK ?_; intro _)))) | (refine ex_quietk (id := 6) (ts := [0, 1, 12, 13, 24]) (by kernel_rfl) ?_; ((try (first | refine q_mv (v := .slice _ _ _) (by decide) rfl ?_ | refine q_mv (by decide) rfl ?_)) <;> (try (first | refine q_mv (v := .int _ _) (by decide) rfl ?_ | refine q_mv (by decide) rfl ?_)) <;> (try (refine q_index (by decide) rfl rfl (by first | decide | assumption | omega) (by first | decide | assumption | omega) ?_)) <;> (try (first | refine q_load_a (by decide) rfl rfl ?_ | refine q_load_ra (by decide) rfl (by assumption) ?_ | refine q_load_ra (by decide) rfl rfl ?_)) <;> (try (first | refine q_mv (v := .slice _ _ _) (by decide) rfl ?_ | refine q_mv (by decide) rfl ?_)) <;> (try (first | refine q_mv (v := .int _ _) (by decide) rfl ?_ | refine q_mv (by decide) rfl ?_)) <;> (try (refine q_index (by decide) rfl rfl (by first | decide | assumption | omega) (by first | decide | assumption | omega) ?_)) <;> (try (first | refine q_load_a (by decide) rfl rfl ?_ | refine q_load_ra (by decide) rfl (by assumption) ?_ | refine q_load_ra (by decide) rfl rfl ?_)) <;> (try (refine q_neA (by decide) rfl rfl (by kernel_rfl) (eqRow _ _) ?_)) <;> (try (refine q_nilk ?_; intro _)) <;> (try ((first | refine keep_cons (v := .slice _ _ _) rfl ?_ | refine keep_cons (v := _) rfl ?_) <;> (first | refine keep_cons (v := .slice _ _ _) rfl ?_ | refine keep_cons (v := _) rfl ?_) <;> (first | refine keep_cons (v := .int _ _) rfl ?_ | refine keep_cons (v := _) rfl ?_) <;> (first | refine keep_cons (v := .int _ _) rfl ?_ | refine keep_cons (v := _) rfl ?_) <;> (first | refine keep_cons (v := .bool _) rfl ?_ | refine keep_cons (v := _) rfl ?_))) <;> (try refine keep_nil ?_))) | (refine rG 7 [4] ?_; ((try (refine wK ?_; intro _)))) | refine wC ?_ | (refine ex_split rfl ?_ ?_ <;> intro hc))
        exact fin (.inr rfl) () (resl1 rfl (rv_tmp (by rw [hne]; rfl))) trivial (Ent.refl _)
    · have hil : i = l.length := by omega
      subst hil
      have hd : decide ((l.length : Int) < (l.length : Int)) = false := by simp
      have hlm : decide (l = m) = true := decide_eq_true (by rw [List.take_length] at hs; rw [hs, h, List.take_length])
      repeat' (first | (refine rG 4 [0, 1, 12, 13, 14] ?_; ((try (refine wK ?_; intro _)))) | (refine rG 9 [4] ?_; ((try (refine wK ?_; intro _)))) | refine wC ?_ | (refine ex_split rfl ?_ ?_ <;> intro hc))
      exact fin (.inr rfl) () (resl1 rfl (rv_tmp (by rw [hlm]; rfl))) trivial (Ent.refl _)
  · have hd : ((l.length : Int) != (m.length : Int)) = true := by simp; omega
    have hne : decide (l = m) = false := decide_eq_false (fun e => h (by rw [e]))
    refine spec_of Tryz.func62 rfl Tryz.ntmps62 rfl ?_
    repeat' (first | (refine rG 0 [0, 1] ?_; ((try (refine wK ?_; intro _)))) | (refine rG 1 [0, 1, 10] ?_; ((try (refine wK ?_; intro _)))) | (refine rG 2 [4] ?_; ((try (refine wK ?_; intro _)))) | refine wC ?_ | (refine ex_split rfl ?_ ?_ <;> intro hc))
    exact fin (.inr rfl) () (resl1 rfl (rv_tmp (by rw [hne]; rfl))) trivial (Ent.refl _)
end Go.Proofs.YtcelailgedndnaaGreatS
