/- Contracts of the functions that the statement reaches: the walk of the program by the small logic, part 7: QL, QM, QN, QO, QP, QQ, T1, T2, RS1. No condition beyond what each theorem states. -/
import Derived.Test.YtcelailgedndnaaGreatZ6
namespace Go.Proofs.YtcelailgedndnaaGreatS
open Go.RowKit
set_option linter.unusedVariables false
set_option linter.unusedSimpArgs false
def fl (k : Sk) (r : Bd.Rl) (j : Nat) (L : Cl) : Cl := L.mapIdx fun t x => if t < j then x.map (fun y => (y.1, feed1 k r t y.2)) else x
theorem fl_len (k : Sk) (r : Bd.Rl) (j : Nat) (L : Cl) : (fl k r j L).length = L.length := by unfold fl; rw [List.length_mapIdx]
theorem fl_zero (k : Sk) (r : Bd.Rl) (L : Cl) : fl k r 0 L = L := by
  unfold fl
  apply List.ext_getElem
  · simp
  · intro n h1 h2; simp
theorem fl_at (k : Sk) (r : Bd.Rl) (j : Nat) (L : Cl) (h : j < L.length) : (fl k r j L)[j]? = some L[j] := by
  unfold fl; rw [List.getElem?_mapIdx, List.getElem?_eq_getElem h]; simp
theorem fl_get (k : Sk) (r : Bd.Rl) (j : Nat) (L : Cl) (n : Nat) (h : n < (fl k r j L).length) : (fl k r j L)[n] = if n < j then (L[n]'(by rw [fl_len] at h; exact h)).map (fun y => (y.1, feed1 k r n y.2)) else L[n]'(by rw [fl_len] at h; exact h) := by
  apply Option.some.inj
  rw [← List.getElem?_eq_getElem h]
  unfold fl
  rw [List.getElem?_mapIdx, List.getElem?_eq_getElem (by rw [fl_len] at h; exact h)]; rfl
theorem fl_succ (k : Sk) (r : Bd.Rl) (j : Nat) (L : Cl) (h : j < L.length) : fl k r (j + 1) L = (fl k r j L).set j (L[j].map fun y => (y.1, feed1 k r j y.2)) := by
  apply List.ext_getElem
  · simp [fl]
  · intro n h1 h2
    rw [List.getElem_set, fl_get, fl_get]
    by_cases hn : j = n
    · subst hn; rw [if_pos (by omega), if_pos rfl]
    · rw [if_neg hn]
      by_cases hh : n < j
      · rw [if_pos hh, if_pos (by omega)]
      · rw [if_neg hh, if_neg (by omega)]
theorem fl_pv (k : Sk) (r : Bd.Rl) (j : Nat) (L : Cl) : (fl k r j L).map pv = L.map pv := by
  unfold fl
  apply List.ext_getElem
  · simp
  · intro n h1 h2
    simp only [List.getElem_map, List.getElem_mapIdx]
    split
    · cases L[n]'(by simpa using h2) <;> rfl
    · rfl
theorem fl_cells (k : Sk) (r : Bd.Rl) (L : Cl) (h8 : L.length = 8) : (fl k r 8 L).map (fun x => x.map (·.2)) = (L.map (fun x => x.map (·.2))).mapIdx fun t c => c.map (feed1 k r t) := by
  unfold fl
  apply List.ext_getElem
  · simp
  · intro n h1 h2
    simp only [List.getElem_map, List.getElem_mapIdx]
    rw [if_pos (by simp at h1; omega)]
    cases L[n]'(by simpa using h1) <;> rfl
theorem coc_fl {bu ro qu ti : Int} {sa : Option Addr} {ns sc_ : Nat} {L : Cl} {pa : Option Addr} {np pc_ bb : Nat} (k : Sk) (r : Bd.Rl) (j : Nat) :
    coc bu ro qu ti sa ns sc_ (fl k r j L) pa np pc_ bb = coc bu ro qu ti sa ns sc_ L pa np pc_ bb := by unfold coc; rw [fl_pv]
theorem set_same {α : Type} {l : List α} {i : Nat} {x : α} (h : l[i]? = some x) : l.set i x = l := by
  obtain ⟨hl, he⟩ := List.getElem?_eq_some_iff.1 h
  rw [← he, List.set_getElem_self]
theorem Spec_rd {P : Program} {f : FuncId} {args : List Value} {H : HP} {X : Type} {val : X → Value} {pr : X → Prop} {res : X → HP} {a : Option Addr} {l : List Value} [h : RdC H a l] (hne : 0 < l.length) (k : ∀ ad, a = some ad → Spec P f args H val pr res) : Spec P f args H val pr res := fun w0 w F s => by
  obtain ⟨ad, ha, _⟩ := h.rd w0 w F s 0 l[0] (List.getElem?_eq_getElem hne)
  exact k ad ha w0 w F s
set_option linter.unusedVariables false
set_option linter.unusedSimpArgs false
attribute [local irreducible] Ops Ex Spec T V QO OA Rn OS
theorem ceFeedN (b : Nat) (e : Ev) (H : HP) (h : evR e = false) :
    Spec Tryz.prog 121 [.pointer (some ⟨b, 0, none⟩), .agg (R.ec e).toArray] H (X := Unit) (fun _ => .tuple #[]) (fun _ => True) (fun _ => H) := by
  have hload : sub (R.ec e) 0 4 = some (R.ec e) := rfl
  refine spec_of Tryz.func121 rfl Tryz.ntmps121 rfl ?_
  repeat' (first | (refine rG 0 [0, 3] ?_; ((try ((refine o_box (by decide) (v := .agg (R.ec e).toArray) rfl rfl (fun b3 => ?_)))) <;> (try (refine wK ?_; intro _)))) | (refine ex_regk (id := 1) (ts := [0, 3, 5]) ?_; ((try (refine o_load_a (vs := R.ec e) (by decide) rfl hload ?_)) <;> (try (refine o_call (evRight e h) (by first | exact True.intro | (show _ < _; decide)) rfl rfl (fun _ _ => ?_))) <;> (try (refine ops_nilk ?_; intro _)) <;> (try ((first | refine keep_cons (v := .pointer _) rfl ?_ | refine keep_cons (v := _) rfl ?_) <;> (first | refine keep_cons (v := .pointer _) rfl ?_ | refine keep_cons (v := _) rfl ?_) <;> (first | refine keep_cons (v := .bool _) rfl ?_ | refine keep_cons (v := _) rfl ?_))) <;> (try refine keep_nil ?_))) | refine wC ?_ | (refine ex_split rfl ?_ ?_ <;> intro hc))
  exact fin (.inl rfl) () (resl0 rfl) trivial ent_take
theorem ceFeedY (b : Nat) (t) (x0 x1 x2 v4 v5 v6 v7 : Value) {Q Q' : HP} (a : Option Addr) (q : List In) (cap : Nat) (e : Ev) [ta : Take (rs a (q.flatMap inc)) Q Q'] (hq : q.length ≤ 100000) (h : evR e = true) :
    Spec Tryz.prog 121 [.pointer (some ⟨b, 0, none⟩), .agg (R.ec e).toArray] (cl true b [x0, x1, x2, .slice a q.length cap, v4, v5, v6, v7] t (0, 0) * Q) (X := Option Addr × Nat) (fun _ => .tuple #[]) (fun x => (q ++ [(false, e)]).length ≤ x.2)
      (fun x => cl true b [x0, x1, x2, .slice x.1 (q ++ [(false, e)]).length x.2, v4, v5, v6, v7] t (0, 0) * (rs x.1 ((q ++ [(false, e)]).flatMap inc) * Q)) := by
  have hload : sub (R.ec e) 0 4 = some (R.ec e) := rfl
  refine spec_of Tryz.func121 rfl Tryz.ntmps121 rfl ?_
  repeat' (first | (refine rG 0 [0, 3] ?_; ((try ((refine o_box (by decide) (v := .agg (R.ec e).toArray) rfl rfl (fun b3 => ?_)))) <;> (try (refine wK ?_; intro _)))) | (refine ex_regk (id := 1) (ts := [0, 3, 5]) ?_; ((try (refine o_load_a (vs := R.ec e) (by decide) rfl hload ?_)) <;> (try (refine o_call (evRight e h) (by first | exact True.intro | (show _ < _; decide)) rfl rfl (fun _ _ => ?_))) <;> (try (refine ops_nilk ?_; intro _)) <;> (try ((first | refine keep_cons (v := .pointer _) rfl ?_ | refine keep_cons (v := _) rfl ?_) <;> (first | refine keep_cons (v := .pointer _) rfl ?_ | refine keep_cons (v := _) rfl ?_) <;> (first | refine keep_cons (v := .bool _) rfl ?_ | refine keep_cons (v := _) rfl ?_))) <;> (try refine keep_nil ?_))) | refine wC ?_ | (refine ex_split rfl ?_ ?_ <;> intro hc))
  repeat' (first | (refine rA 2 [] 7 ?_; (refine os_but 0 rfl ?_); ((refine lQ 0 ?_; ((refine lQ 1 ?_; ((refine lQ 2 ?_; ((refine lC (v := ?_) 3 ?_ ?_; rotate_left; (focus ((refine o_load_a (vs := R.ec e) (by decide) rfl hload ?_) <;> exact lL)); ((refine lC (v := ?_) 4 ?_ ?_; rotate_left; (focus ((refine o_build (cells := inc (false, e)) (by decide) rfl ?_) <;> exact lL)); ((refine oN 5 ?_ <;> ((refine o_buildSlice (by decide) rfl rfl rfl (fun _ => ?_))) <;> (refine os_nil ?_) <;> ((refine oN 6 ?_ <;> ((refine o_callBR (by first | exact True.intro | (show _ < _; decide)) rfl rfl rfl (quePush b _ _ _ _ _ _ _ _ a _ q [(false, e)] cap _ 9223372036854775807 (by omega) (by simp) (by simp; omega)) (fun y hy => ?_); obtain ⟨qa2, qc2⟩ := y)) <;> (refine os_nil ?_) <;> ((refine dK ?_; intro _))))))))))))))))) | refine wC ?_ | (refine ex_split rfl ?_ ?_ <;> intro hc))
  all_goals exact fin (.inl rfl) (qa2, qc2) (resl0 rfl) hy ent_take
set_option maxRecDepth 100000 in
set_option maxHeartbeats 32000000 in
theorem coFeed {X H : HP} (b : Nat) (s : Cs) (r : Bd.Rl) (i : Nat) (k : Sk) [t : Take (CO b s) X H] {n : Nat} (ok : CsOk s n) (hn : n ≤ 10000) (hk : s.sinks[i]? = some k) (hri : r.1 = (i : Int)) :
    Spec Tryz.prog 99 [.pointer (some ⟨b, 0, none⟩), .agg (Bd.lc r).toArray] X (X := Unit) (fun _ => .tuple #[]) (fun _ => True) (fun _ => CO b (feedAll k r s) * H) := by
  rw [t.eq]
  refine co_open fun sa sc_ L pa pc_ bb bs oo => ?_
  rw [COr_flat]
  have hL8 : L.length = 8 := oo.l8
  obtain ⟨r0, r1, r2, r3⟩ := r
  have hri : r0 = (i : Int) := hri
  subst hri
  obtain ⟨hilt, hke⟩ := List.getElem?_eq_some_iff.1 hk
  have hi0 : 0 ≤ (i : Int) := by omega
  have hi1 : (i : Int) < (s.sinks.length : Int) := by omega
  have hvs : sub (s.sinks.flatMap sc) ((i : Int).toNat * 5) 5 = some (sc k) := by rw [Int.toNat_natCast, ← hke]; exact sub_flat sc_len s.sinks i hilt
  refine Spec_rd (a := sa) (l := s.sinks.flatMap sc) (by rw [flat_len sc_len]; omega) (fun sad ha => ?_)
  subst ha
  have hsub : sub (coc s.bu s.ro s.qu s.ticks (some sad) s.sinks.length sc_ L pa s.pots.length pc_ bb) (0 + 4) 8 = some (L.map pv) := by
    obtain ⟨x0, x1, x2, x3, x4, x5, x6, x7, rfl⟩ := list8 hL8
    rfl
  refine spec_of Tryz.func99 rfl Tryz.ntmps99 rfl ?_
  repeat' (first | (refine rG 0 [0, 3] ?_; ((try ((refine o_box (by decide) (v := .agg (Bd.lc ((i : Int), r1, r2, r3)).toArray) rfl rfl (fun b3 => ?_)))) <;> (try (refine wK ?_; intro _)))) | refine wC ?_ | (refine ex_split rfl ?_ ?_ <;> intro hc))
  repeat' (first | (refine rA 1 [0, 3, 4] 11 ?_; (refine os_all ?_); ((refine lQ 0 ?_; ((refine lQ 1 ?_; ((refine lQ 2 ?_; ((refine lQ 3 ?_; ((refine lC (v := ?_) 4 ?_ ?_; rotate_left; (focus ((refine o_load_s (v := .slice (some sad) s.sinks.length sc_) (by decide) rfl rfl ?_) <;> exact lL)); ((refine lQ 5 ?_; ((refine lQ 6 ?_; ((refine lQ 7 ?_; ((refine lC (v := ?_) 8 ?_ ?_; rotate_left; (focus ((refine o_load_ra (vs := sc k) (by decide) rfl hvs ?_) <;> exact lL)); ((refine oN 9 ?_ <;> ((refine o_alloc_a (by decide) (fun b4 => ?_))) <;> (refine os_nil ?_) <;> ((refine oN 10 ?_ <;> (refine wO ?_) <;> (refine os_nil ?_) <;> ((refine dK ?_; intro _))))))))))))))))))))))))) | refine wC ?_ | (refine ex_split rfl ?_ ?_ <;> intro hc))
  all_goals
    refine Ex.ent ?_ (ent_clL (b := b4) (l' := sc k) rfl)
    repeat' (first | (refine ex_regk (id := 2) (ts := [3, 4, 19, 20]) ?_; ((try (first | refine o_mv (v := .pointer _) (by decide) rfl ?_ | refine o_mv (by decide) rfl ?_)) <;> (try (first | refine o_nil (by decide) rfl ?_ | refine o_nil_func (by decide) rfl ?_)) <;> (try (refine o_fieldAddr' (by decide) rfl ?_)) <;> (try (refine o_load_a (vs := L.map pv) (by decide) rfl hsub ?_)) <;> (try (first | refine o_mv (v := .int _ _) (by decide) rfl ?_ | refine o_mv (by decide) rfl ?_)) <;> (try (refine ops_nilk ?_; intro _)) <;> (try ((first | refine keep_cons (v := .pointer _) rfl ?_ | refine keep_cons (v := _) rfl ?_) <;> (first | refine keep_cons (v := .pointer _) rfl ?_ | refine keep_cons (v := _) rfl ?_) <;> (first | refine keep_cons (v := .agg (List.toArray _)) rfl ?_ | refine keep_cons (v := _) rfl ?_) <;> (first | refine keep_cons (v := .int _ _) rfl ?_ | refine keep_cons (v := _) rfl ?_))) <;> (try refine keep_nil ?_))) | refine wC ?_ | (refine ex_split rfl ?_ ?_ <;> intro hc))
    refine ex_loopE (fun mm e H' => ∃ g, ∃ j : Nat, e = put (put (put (put g 3 (.pointer (some ⟨b3, 0, none⟩))) 4 (.pointer (some ⟨b4, 0, none⟩))) 19 (.agg (L.map pv).toArray)) 20 (.int .i64 (j : Int)) ∧
      H' = cl true b3 (Bd.lc ((i : Int), r1, r2, r3)) 79 (0, 0) * (cl true b4 (sc k) 74 (0, 0) * (cl true b (coc s.bu s.ro s.qu s.ticks (some sad) s.sinks.length sc_ (fl k ((i : Int), r1, r2, r3) j L) pa s.pots.length pc_ bb) 102 (0, 0) * (rs (some sad) (s.sinks.flatMap sc) * (CEs (fl k ((i : Int), r1, r2, r3) j L) * (ow 108 4 pa s.pots.length pc_ (s.pots.flatMap potc) * (cl true bb (bs.map Bd.bcell) 146 (0, 0) * (Bd.bm bs * H))))))) ∧ j ≤ 8 ∧ mm = 8 - j) (m := 8) ⟨_, 0, rfl, rfl, by omega, rfl⟩ ?_ ?_
    · rw [fl_zero]; exact ent_take
    · rintro mm e H' ⟨g, j, rfl, rfl, hj, rfl⟩
      rw [coc_fl]
      by_cases hlt : j < 8
      · have hd : decide ((j : Int) < 8) = true := decide_eq_true (by omega)
        have h0 : 0 ≤ (j : Int) := by omega
        have h1 : (j : Int) < ((8 : Nat) : Int) := by omega
        have ei : IntKind.i64.wrap ((j : Int) + 1) = ((j + 1 : Nat) : Int) := by rw [IntKind.wrap_i64]; omega
        have hjL : j < L.length := by omega
        have hjF : j < (fl k ((i : Int), r1, r2, r3) j L).length := by rw [fl_len]; exact hjL
        have hv : (L.map pv)[(j : Int).toNat * 1]? = some (pv L[j]) := by rw [Int.toNat_natCast, Nat.mul_one, List.getElem?_map, List.getElem?_eq_getElem hjL]; rfl
        have hat := fl_at k ((i : Int), r1, r2, r3) j L hjL
        have hsu := fl_succ k ((i : Int), r1, r2, r3) j L hjL
        have hLc : s.cells[j]? = some (L[j].map (·.2)) := by rw [← oo.cells, List.getElem?_map, List.getElem?_eq_getElem hjL]; rfl
        generalize L[j] = x at *
        cases x with
        | none =>
          have hsu : fl k ((i : Int), r1, r2, r3) (j + 1) L = fl k ((i : Int), r1, r2, r3) j L := by rw [hsu]; exact set_same hat
          repeat' (first | (refine rG 3 [3, 4, 19, 20, 21] ?_; ((try (refine wK ?_; intro _)))) | (refine rG 4 [3, 4, 5, 6, 19, 20] ?_; ((try refine wO ?_) <;> (try (refine o_idxS (v := .pointer none) (by decide) rfl rfl h0 h1 Tryz.underlying99 (fun _ => by kernel_rfl) (sz := 1) (fun _ => by kernel_rfl) hv ?_)) <;> (try (refine wK ?_; intro _)))) | refine wC ?_ | (refine ex_split rfl ?_ ?_ <;> intro hc))
          repeat' (first | (refine rA 5 [3, 4, 6, 19, 20, 45] 22 ?_; (refine os_all ?_); ((refine lQ 0 ?_; ((refine lQ 1 ?_; ((refine lQ 2 ?_; ((refine lQ 3 ?_; ((refine lQ 4 ?_; ((refine lQ 5 ?_; ((refine lC (v := ?_) 6 ?_ ?_; rotate_left; (focus ((first | refine g_no rfl (by decide) rfl (by decide) ?_ | refine g_undef rfl rfl (by decide) ?_ | (refine g_yes rfl (by decide) rfl ?_; (refine o_call (has _ _) (by first | exact True.intro | (show _ < _; decide)) rfl rfl (fun _ _ => ?_))) | refine g_noT rfl (by decide) rfl (by assumption) (by decide) ?_ | (refine g_yesF rfl (by decide) rfl (by assumption) ?_; (refine o_call (has _ _) (by first | exact True.intro | (show _ < _; decide)) rfl rfl (fun _ _ => ?_))) | ((refine g_split rfl (by decide) rfl (by decide) ?_ ?_ <;> intro hc); (refine o_call (has _ _) (by first | exact True.intro | (show _ < _; decide)) rfl rfl (fun _ _ => ?_)))) <;> exact lL)); ((refine lQ 7 ?_; ((refine lQ 8 ?_; ((refine lQ 9 ?_; ((refine lQ 10 ?_; ((refine lQ 11 ?_; ((refine lQ 12 ?_; ((refine lQ 13 ?_; ((refine lQ 14 ?_; ((refine lQ 15 ?_; ((refine lQ 16 ?_; ((refine lQ 17 ?_; ((refine lQ 18 ?_; ((refine lQ 19 ?_; ((refine lQ 20 ?_; ((refine lQ 21 ?_; ((refine dK ?_; intro _))))))))))))))))))))))))))))))))))))))))))))))) | (refine rG 7 [3, 4, 19, 20] ?_; ((try (refine wK ?_; intro _)))) | refine wC ?_ | (refine ex_split rfl ?_ ?_ <;> intro hc))
          rw [ei]
          refine ⟨8 - (j + 1), by omega, _, ?_, _, j + 1, rfl, rfl, by omega, rfl⟩
          rw [coc_fl, hsu]
          exact ent_take
        | some y =>
          obtain ⟨cb, le, sp, re, q, ⟨m, lt, sn, ⟨ops, sz, sl, ag, sk, fd⟩, P⟩, id, rows, taken⟩ := y
          have hql : q.length ≤ 100000 := by
            have hc : cell s j = some ⟨le, sp, re, q, ⟨m, lt, sn, (ops, sz, sl, ag, sk, fd), P⟩, id, rows, taken⟩ := by unfold cell; rw [hLc]; rfl
            have := (ok.cell j _ hc).1.ins
            simp only at this; omega
          have hsu : fl k ((i : Int), r1, r2, r3) (j + 1) L = (fl k ((i : Int), r1, r2, r3) j L).set j (some (cb, feed1 k ((i : Int), r1, r2, r3) j ⟨le, sp, re, q, ⟨m, lt, sn, (ops, sz, sl, ag, sk, fd), P⟩, id, rows, taken⟩)) := hsu
          repeat' (first | (refine rG 3 [3, 4, 19, 20, 21] ?_; ((try (refine wK ?_; intro _)))) | (refine rG 4 [3, 4, 5, 6, 19, 20] ?_; ((try refine wO ?_) <;> (try (refine o_idxS (v := .pointer (some ⟨cb, 0, none⟩)) (by decide) rfl rfl h0 h1 Tryz.underlying99 (fun _ => by kernel_rfl) (sz := 1) (fun _ => by kernel_rfl) hv ?_)) <;> (try (refine wK ?_; intro _)))) | refine wC ?_ | (refine ex_split rfl ?_ ?_ <;> intro hc))
          refine Ex.ent ?_ (ent_cell hat)
          refine ex_ce fun rb pb mb oa ocp qa qc ra rc ta tc g1 g2 g3 => ?_
          refine Ex.ent ?_ (ent_head (RR rb pb mb oa ocp ⟨m, lt, sn, (ops, sz, sl, ag, sk, fd), P⟩))
          refine Ex.ent ?_ ent_RR
          cases hH : hs k.2.1 (j : Int) with
          | false =>
            have hf : feed1 k ((i : Int), r1, r2, r3) j ⟨le, sp, re, q, ⟨m, lt, sn, (ops, sz, sl, ag, sk, fd), P⟩, id, rows, taken⟩ = ⟨le, sp, re, q, ⟨m, lt, sn, (ops, sz, sl, ag, sk, fd), P⟩, id, rows, taken⟩ := by unfold feed1; rw [hH]; rfl
            repeat' (first | (refine rA 5 [3, 4, 6, 19, 20, 45] 22 ?_; (refine os_all ?_); ((refine lQ 0 ?_; ((refine lQ 1 ?_; ((refine lQ 2 ?_; ((refine lQ 3 ?_; ((refine lQ 4 ?_; ((refine lQ 5 ?_; ((refine lC (v := ?_) 6 ?_ ?_; rotate_left; (focus ((first | refine g_no rfl (by decide) rfl (by decide) ?_ | refine g_undef rfl rfl (by decide) ?_ | (refine g_yes rfl (by decide) rfl ?_; (refine o_call (hasV hH) (by first | exact True.intro | (show _ < _; decide)) rfl rfl (fun _ _ => ?_))) | refine g_noT rfl (by decide) rfl (by assumption) (by decide) ?_ | (refine g_yesF rfl (by decide) rfl (by assumption) ?_; (refine o_call (hasV hH) (by first | exact True.intro | (show _ < _; decide)) rfl rfl (fun _ _ => ?_))) | ((refine g_split rfl (by decide) rfl (by decide) ?_ ?_ <;> intro hc); (refine o_call (hasV hH) (by first | exact True.intro | (show _ < _; decide)) rfl rfl (fun _ _ => ?_)))) <;> exact lL)); ((refine lQ 7 ?_; ((refine lQ 8 ?_; ((refine lQ 9 ?_; ((refine lQ 10 ?_; ((refine lQ 11 ?_; ((refine lQ 12 ?_; ((refine lQ 13 ?_; ((refine lQ 14 ?_; ((refine lQ 15 ?_; ((refine lQ 16 ?_; ((refine lQ 17 ?_; ((refine lQ 18 ?_; ((refine lQ 19 ?_; ((refine lQ 20 ?_; ((refine lQ 21 ?_; ((refine dK ?_; intro _))))))))))))))))))))))))))))))))))))))))))))))) | (refine rG 7 [3, 4, 19, 20] ?_; ((try (refine wK ?_; intro _)))) | refine wC ?_ | (refine ex_split rfl ?_ ?_ <;> intro hc))
            rw [ei]
            refine ⟨8 - (j + 1), by omega, _, ?_, _, j + 1, rfl, rfl, by omega, rfl⟩
            rw [coc_fl, hsu, hf, CEs_set _ _ hjF (cb, ⟨le, sp, re, q, ⟨m, lt, sn, (ops, sz, sl, ag, sk, fd), P⟩, id, rows, taken⟩)]
            refine Ent.trans ?_ (Ent.trans (ce_mk (H := CEs ((fl k ((i : Int), r1, r2, r3) j L).set j none) * (cl true b3 (Bd.lc ((i : Int), r1, r2, r3)) 79 (0, 0) * (cl true b4 (sc k) 74 (0, 0) * (cl true b (coc s.bu s.ro s.qu s.ticks (some sad) s.sinks.length sc_ L pa s.pots.length pc_ bb) 102 (0, 0) * (rs (some sad) (s.sinks.flatMap sc) * (ow 108 4 pa s.pots.length pc_ (s.pots.flatMap potc) * (cl true bb (bs.map Bd.bcell) 146 (0, 0) * (Bd.bm bs * H)))))))) (b := cb) (le := le) (sp := sp) (re := re) (id := id) (run := ⟨m, lt, sn, (ops, sz, sl, ag, sk, fd), P⟩) (rb := rb) (pb := pb) (mb := mb) (oa := oa) (ocp := ocp) (qa := qa) (ra := ra) (ta := ta) g1 g2 g3) ent_take)
            exact ent_take
          | true =>
            cases hF : (fd == (i : Int)) with
            | false =>
              have hfd : (fd != (i : Int)) = true := by show (!(fd == (i : Int))) = true; rw [hF]; rfl
              have hf : feed1 k ((i : Int), r1, r2, r3) j ⟨le, sp, re, q, ⟨m, lt, sn, (ops, sz, sl, ag, sk, fd), P⟩, id, rows, taken⟩ = ⟨le, sp, re, q, ⟨m, lt, sn, (ops, sz, sl, ag, sk, fd), P⟩, id, rows, taken⟩ := by
                unfold feed1
                rw [hH]
                show (if (true && (fd == (i : Int))) = true then _ else _) = _
                rw [hF]; rfl
              repeat' (first | (refine rA 5 [3, 4, 6, 19, 20, 45] 22 ?_; (refine os_all ?_); ((refine lQ 0 ?_; ((refine lQ 1 ?_; ((refine lQ 2 ?_; ((refine lQ 3 ?_; ((refine lQ 4 ?_; ((refine lQ 5 ?_; ((refine lC (v := ?_) 6 ?_ ?_; rotate_left; (focus ((first | refine g_no rfl (by decide) rfl (by decide) ?_ | refine g_undef rfl rfl (by decide) ?_ | (refine g_yes rfl (by decide) rfl ?_; (refine o_call (hasV hH) (by first | exact True.intro | (show _ < _; decide)) rfl rfl (fun _ _ => ?_))) | refine g_noT rfl (by decide) rfl (by assumption) (by decide) ?_ | (refine g_yesF rfl (by decide) rfl (by assumption) ?_; (refine o_call (hasV hH) (by first | exact True.intro | (show _ < _; decide)) rfl rfl (fun _ _ => ?_))) | ((refine g_split rfl (by decide) rfl (by decide) ?_ ?_ <;> intro hc); (refine o_call (hasV hH) (by first | exact True.intro | (show _ < _; decide)) rfl rfl (fun _ _ => ?_)))) <;> exact lL)); ((refine lQ 7 ?_; ((refine lQ 8 ?_; ((refine lQ 9 ?_; ((refine lQ 10 ?_; ((refine lQ 11 ?_; ((refine lQ 12 ?_; ((refine lQ 13 ?_; ((refine lQ 14 ?_; ((refine lQ 15 ?_; ((refine lQ 16 ?_; ((refine lQ 17 ?_; ((refine lQ 18 ?_; ((refine lQ 19 ?_; ((refine lQ 20 ?_; ((refine lQ 21 ?_; ((refine dK ?_; intro _))))))))))))))))))))))))))))))))))))))))))))))) | (refine rG 7 [3, 4, 19, 20] ?_; ((try (refine wK ?_; intro _)))) | refine wC ?_ | (refine ex_split rfl ?_ ?_ <;> intro hc))
              rw [ei]
              refine ⟨8 - (j + 1), by omega, _, ?_, _, j + 1, rfl, rfl, by omega, rfl⟩
              rw [coc_fl, hsu, hf, CEs_set _ _ hjF (cb, ⟨le, sp, re, q, ⟨m, lt, sn, (ops, sz, sl, ag, sk, fd), P⟩, id, rows, taken⟩)]
              refine Ent.trans ?_ (Ent.trans (ce_mk (H := CEs ((fl k ((i : Int), r1, r2, r3) j L).set j none) * (cl true b3 (Bd.lc ((i : Int), r1, r2, r3)) 79 (0, 0) * (cl true b4 (sc k) 74 (0, 0) * (cl true b (coc s.bu s.ro s.qu s.ticks (some sad) s.sinks.length sc_ L pa s.pots.length pc_ bb) 102 (0, 0) * (rs (some sad) (s.sinks.flatMap sc) * (ow 108 4 pa s.pots.length pc_ (s.pots.flatMap potc) * (cl true bb (bs.map Bd.bcell) 146 (0, 0) * (Bd.bm bs * H)))))))) (b := cb) (le := le) (sp := sp) (re := re) (id := id) (run := ⟨m, lt, sn, (ops, sz, sl, ag, sk, fd), P⟩) (rb := rb) (pb := pb) (mb := mb) (oa := oa) (ocp := ocp) (qa := qa) (ra := ra) (ta := ta) g1 g2 g3) ent_take)
              exact ent_take
            | true =>
              have hfd : (fd != (i : Int)) = false := by show (!(fd == (i : Int))) = false; rw [hF]; rfl
              have hf1 : feed1 k ((i : Int), r1, r2, r3) j ⟨le, sp, re, q, ⟨m, lt, sn, (ops, sz, sl, ag, sk, fd), P⟩, id, rows, taken⟩ = feedC (m, (i : Int), r2, k.1) ⟨le, sp, re, q, ⟨m, lt, sn, (ops, sz, sl, ag, sk, fd), P⟩, id, rows, taken⟩ := by
                unfold feed1
                rw [hH]
                show (if (true && (fd == (i : Int))) = true then _ else _) = _
                rw [hF]; rfl
              repeat' (first | (refine rA 5 [3, 4, 6, 19, 20, 45] 22 ?_; (refine os_all ?_); ((refine lQ 0 ?_; ((refine lQ 1 ?_; ((refine lQ 2 ?_; ((refine lQ 3 ?_; ((refine lQ 4 ?_; ((refine lQ 5 ?_; ((refine lC (v := ?_) 6 ?_ ?_; rotate_left; (focus ((first | refine g_no rfl (by decide) rfl (by decide) ?_ | refine g_undef rfl rfl (by decide) ?_ | (refine g_yes rfl (by decide) rfl ?_; (refine o_call (hasV hH) (by first | exact True.intro | (show _ < _; decide)) rfl rfl (fun _ _ => ?_))) | refine g_noT rfl (by decide) rfl (by assumption) (by decide) ?_ | (refine g_yesF rfl (by decide) rfl (by assumption) ?_; (refine o_call (hasV hH) (by first | exact True.intro | (show _ < _; decide)) rfl rfl (fun _ _ => ?_))) | ((refine g_split rfl (by decide) rfl (by decide) ?_ ?_ <;> intro hc); (refine o_call (hasV hH) (by first | exact True.intro | (show _ < _; decide)) rfl rfl (fun _ _ => ?_)))) <;> exact lL)); ((refine lQ 7 ?_; ((refine lQ 8 ?_; ((refine lQ 9 ?_; ((refine lQ 10 ?_; ((refine lQ 11 ?_; ((refine lQ 12 ?_; ((refine lQ 13 ?_; ((refine lQ 14 ?_; ((refine lQ 15 ?_; ((refine lQ 16 ?_; ((refine lQ 17 ?_; ((refine lQ 18 ?_; ((refine lQ 19 ?_; ((refine lQ 20 ?_; ((refine lQ 21 ?_; ((refine dK ?_; intro _))))))))))))))))))))))))))))))))))))))))))))))) | refine wC ?_ | (refine ex_split rfl ?_ ?_ <;> intro hc))
              cases hE : evR (m, (i : Int), r2, k.1) with
              | false =>
                have hf : feed1 k ((i : Int), r1, r2, r3) j ⟨le, sp, re, q, ⟨m, lt, sn, (ops, sz, sl, ag, sk, fd), P⟩, id, rows, taken⟩ = ⟨le, sp, re, q, ⟨m, lt, sn, (ops, sz, sl, ag, sk, fd), P⟩, id, rows, taken⟩ := by rw [hf1]; unfold feedC; rw [hE]; rfl
                repeat' (first | (refine rA 6 [3, 4, 19, 20] 17 ?_; (refine os_all ?_); ((refine lQ 0 ?_; ((refine lQ 1 ?_; ((refine lQ 2 ?_; ((refine lQ 3 ?_; ((refine lQ 4 ?_; ((refine lQ 5 ?_; ((refine lQ 6 ?_; ((refine lC (v := ?_) 7 ?_ ?_; rotate_left; (focus ((refine o_load_a (vs := [.int .i64 m, .int .i64 lt, .int .i64 sn]) (by decide) rfl rfl ?_) <;> exact lL)); ((refine lC (v := ?_) 8 ?_ ?_; rotate_left; (focus ((refine o_call (clMark m lt sn) (by first | exact True.intro | (show _ < _; decide)) rfl rfl (fun _ _ => ?_)) <;> exact lL)); ((refine lQ 9 ?_; ((refine lQ 10 ?_; ((refine lQ 11 ?_; ((refine lQ 12 ?_; ((refine lQ 13 ?_; ((refine lQ 14 ?_; ((refine lC (v := ?_) 15 ?_ ?_; rotate_left; (focus ((refine o_build (cells := R.ec (m, (i : Int), r2, k.1)) (by decide) rfl ?_) <;> exact lL)); ((refine oN 16 ?_ <;> ((refine o_callH (ceFeedN cb (m, (i : Int), r2, k.1) _ hE) (by first | exact True.intro | (show _ < _; decide)) rfl rfl (fun _ _ => ?_))) <;> (refine os_nil ?_) <;> ((refine dK ?_; intro _))))))))))))))))))))))))))))))))))))) | refine wC ?_ | (refine ex_split rfl ?_ ?_ <;> intro hc))
                all_goals
                  repeat' (first | (refine rG 7 [3, 4, 19, 20] ?_; ((try (refine wK ?_; intro _)))) | refine wC ?_ | (refine ex_split rfl ?_ ?_ <;> intro hc))
                  rw [ei]
                  refine ⟨8 - (j + 1), by omega, _, ?_, _, j + 1, rfl, rfl, by omega, rfl⟩
                  rw [coc_fl, hsu, hf, CEs_set _ _ hjF (cb, ⟨le, sp, re, q, ⟨m, lt, sn, (ops, sz, sl, ag, sk, fd), P⟩, id, rows, taken⟩)]
                  refine Ent.trans ?_ (Ent.trans (ce_mk (H := CEs ((fl k ((i : Int), r1, r2, r3) j L).set j none) * (cl true b3 (Bd.lc ((i : Int), r1, r2, r3)) 79 (0, 0) * (cl true b4 (sc k) 74 (0, 0) * (cl true b (coc s.bu s.ro s.qu s.ticks (some sad) s.sinks.length sc_ L pa s.pots.length pc_ bb) 102 (0, 0) * (rs (some sad) (s.sinks.flatMap sc) * (ow 108 4 pa s.pots.length pc_ (s.pots.flatMap potc) * (cl true bb (bs.map Bd.bcell) 146 (0, 0) * (Bd.bm bs * H)))))))) (b := cb) (le := le) (sp := sp) (re := re) (id := id) (run := ⟨m, lt, sn, (ops, sz, sl, ag, sk, fd), P⟩) (rb := rb) (pb := pb) (mb := mb) (oa := oa) (ocp := ocp) (qa := qa) (ra := ra) (ta := ta) g1 g2 g3) ent_take)
                  exact ent_take
              | true =>
                have hf : feed1 k ((i : Int), r1, r2, r3) j ⟨le, sp, re, q, ⟨m, lt, sn, (ops, sz, sl, ag, sk, fd), P⟩, id, rows, taken⟩ = ⟨le, sp, re, q ++ [(false, (m, (i : Int), r2, k.1))], ⟨m, lt, sn, (ops, sz, sl, ag, sk, fd), P⟩, id, rows, taken⟩ := by rw [hf1]; unfold feedC; rw [hE]; rfl
                repeat' (first | (refine rA 6 [3, 4, 19, 20] 17 ?_; (refine os_but 6 rfl ?_); ((refine lQ 0 ?_; ((refine lQ 1 ?_; ((refine lQ 2 ?_; ((refine lQ 3 ?_; ((refine lQ 9 ?_; ((refine lQ 10 ?_; ((refine lQ 11 ?_; ((refine lQ 12 ?_; ((refine lQ 13 ?_; ((refine lQ 14 ?_; ((refine oN 4 ?_ <;> (refine wO ?_) <;> (refine os_nil ?_) <;> ((refine lQ 5 ?_; ((refine lQ 6 ?_; ((refine oN 7 ?_ <;> (refine o_load_a (vs := [.int .i64 m, .int .i64 lt, .int .i64 sn]) (by decide) rfl rfl ?_) <;> (refine os_nil ?_) <;> ((refine lC (v := ?_) 8 ?_ ?_; rotate_left; (focus ((refine o_call (clMark m lt sn) (by first | exact True.intro | (show _ < _; decide)) rfl rfl (fun _ _ => ?_)) <;> exact lL)); ((refine lC (v := ?_) 15 ?_ ?_; rotate_left; (focus ((refine o_build (cells := R.ec (m, (i : Int), r2, k.1)) (by decide) rfl ?_) <;> exact lL)); ((refine oN 16 ?_ <;> ((refine o_callBR (by first | exact True.intro | (show _ < _; decide)) rfl rfl rfl (ceFeedY cb _ _ _ _ _ _ _ _ qa q qc (m, (i : Int), r2, k.1) hql hE) (fun y hy => ?_); obtain ⟨qa2, qc2⟩ := y)) <;> (refine os_nil ?_) <;> ((refine dK ?_; intro _))))))))))))))))))))))))))))))))))))) | refine wC ?_ | (refine ex_split rfl ?_ ?_ <;> intro hc))
                all_goals
                  repeat' (first | (refine rG 7 [3, 4, 19, 20] ?_; ((try (refine wK ?_; intro _)))) | refine wC ?_ | (refine ex_split rfl ?_ ?_ <;> intro hc))
                  rw [ei]
                  refine ⟨8 - (j + 1), by omega, _, ?_, _, j + 1, rfl, rfl, by omega, rfl⟩
                  rw [coc_fl, hsu, hf, CEs_set _ _ hjF (cb, ⟨le, sp, re, q ++ [(false, (m, (i : Int), r2, k.1))], ⟨m, lt, sn, (ops, sz, sl, ag, sk, fd), P⟩, id, rows, taken⟩)]
                  refine Ent.trans ?_ (Ent.trans (ce_mk (H := CEs ((fl k ((i : Int), r1, r2, r3) j L).set j none) * (cl true b3 (Bd.lc ((i : Int), r1, r2, r3)) 79 (0, 0) * (cl true b4 (sc k) 74 (0, 0) * (cl true b (coc s.bu s.ro s.qu s.ticks (some sad) s.sinks.length sc_ L pa s.pots.length pc_ bb) 102 (0, 0) * (rs (some sad) (s.sinks.flatMap sc) * (ow 108 4 pa s.pots.length pc_ (s.pots.flatMap potc) * (cl true bb (bs.map Bd.bcell) 146 (0, 0) * (Bd.bm bs * H)))))))) (b := cb) (le := le) (sp := sp) (re := re) (id := id) (run := ⟨m, lt, sn, (ops, sz, sl, ag, sk, fd), P⟩) (rb := rb) (pb := pb) (mb := mb) (oa := oa) (ocp := ocp) (qa := qa2) (qc := qc2) (ra := ra) (ta := ta) hy g2 g3) ent_take)
                  exact ent_take
      · have hil : j = 8 := by omega
        subst hil
        have hd : decide (((8 : Nat) : Int) < 8) = false := rfl
        repeat' (first | (refine rG 3 [3, 4, 19, 20, 21] ?_; ((try (refine wK ?_; intro _)))) | refine wC ?_ | (refine ex_split rfl ?_ ?_ <;> intro hc))
        refine fin (.inl rfl) () (resl0 rfl) trivial ?_
        have oo2 : OaOk (feedAll k ((i : Int), r1, r2, r3) s) ⟨some sad, sc_, fl k ((i : Int), r1, r2, r3) 8 L, pa, pc_, bb, bs⟩ := ⟨by show (fl _ _ _ _).length = 8; rw [fl_len]; exact hL8, by show (fl _ _ _ _).map _ = s.cells.mapIdx _; rw [fl_cells _ _ _ hL8]; congr 1; exact oo.cells, oo.pc, oo.sc, oo.b8, oo.told, oo.tc⟩
        refine Ent.trans ?_ (co_mk oo2)
        rw [COr_flat]
        show Ent _ (cl true b (coc s.bu s.ro s.qu s.ticks (some sad) s.sinks.length sc_ (fl k ((i : Int), r1, r2, r3) 8 L) pa s.pots.length pc_ bb) 102 (0, 0) * (rs (some sad) (s.sinks.flatMap sc) * (CEs (fl k ((i : Int), r1, r2, r3) 8 L) * (ow 108 4 pa s.pots.length pc_ (s.pots.flatMap potc) * (cl true bb (bs.map Bd.bcell) 146 (0, 0) * (Bd.bm bs * H))))))
        rw [coc_fl]
        exact ent_take
end Go.Proofs.YtcelailgedndnaaGreatS
namespace Go.Proofs.YtcelailgedndnaaGreatS
open Go.RowKit
set_option linter.unusedVariables false
set_option linter.unusedSimpArgs false
theorem flat_spl1 {α : Type} {cells : α → List Value} {sz : Nat} (h : ∀ x, (cells x).length = sz) (l : List α) (i : Nat) (hi : i < l.length) (y : α) : spl (l.flatMap cells) (i * sz) (cells y) = (l.set i y).flatMap cells := by
  have hl : ((l.take i).flatMap cells).length = i * sz := by rw [flat_len h, List.length_take]; congr 1; omega
  have hb : i * sz + sz ≤ (l.flatMap cells).length := by rw [flat_len h, ← Nat.succ_mul]; exact Nat.mul_le_mul_right _ hi
  rw [spl_eq _ _ _ (by rw [h]; exact hb), flat_set1 l i hi, h, flat_take h, ← Nat.succ_mul, flat_drop h]
theorem serveAll_ok {s : Cs} {n : Nat} (h : CsOk s n) : CsOk (serveAll s) n ∧ (serveAll s).sinks = s.sinks ∧ (serveAll s).ticks = s.ticks ∧ (serveAll s).bu = s.bu ∧ (serveAll s).ro = s.ro ∧ (serveAll s).qu = s.qu ∧ (serveAll s).told = s.told := by
  unfold serveAll
  generalize order s.ticks = T
  have : ∀ (T : List Nat) (x : Cs), CsOk x n → x.sinks = s.sinks → x.ticks = s.ticks → x.bu = s.bu → x.ro = s.ro → x.qu = s.qu → x.told = s.told → CsOk (T.foldl (fun x t => serve1 t (turnN s.bu (waits s t)) x) x) n ∧ (T.foldl (fun x t => serve1 t (turnN s.bu (waits s t)) x) x).sinks = s.sinks ∧ (T.foldl (fun x t => serve1 t (turnN s.bu (waits s t)) x) x).ticks = s.ticks ∧ (T.foldl (fun x t => serve1 t (turnN s.bu (waits s t)) x) x).bu = s.bu ∧ (T.foldl (fun x t => serve1 t (turnN s.bu (waits s t)) x) x).ro = s.ro ∧ (T.foldl (fun x t => serve1 t (turnN s.bu (waits s t)) x) x).qu = s.qu ∧ (T.foldl (fun x t => serve1 t (turnN s.bu (waits s t)) x) x).told = s.told := by
    intro T
    induction T with
    | nil => intro x h1 h2 h3 h4 h5 h6 h7; exact ⟨h1, h2, h3, h4, h5, h6, h7⟩
    | cons t T ih =>
      intro x h1 h2 h3 h4 h5 h6 h7
      obtain ⟨a1, a2, a3, a4, a5, a6⟩ := serve1_same t (turnN s.bu (waits s t)) x
      exact ih _ (serve1_ok h1 _ _) (a1.trans h2) (a6.trans h3) (a2.trans h4) (a3.trans h5) (a4.trans h6) (a5.trans h7)
  exact this T s h rfl rfl rfl rfl rfl rfl
def tick0 (s : Cs) : Cs := { serveAll s with ticks := IntKind.i64.wrap (s.ticks + 1) }
theorem tick0_ok {s : Cs} {n : Nat} (h : CsOk s n) (hn : n ≤ 10000) : CsOk (tick0 s) (n + 1) := by
  have h1 := (serveAll_ok h).1.mono (Nat.le_succ n)
  have e : IntKind.i64.wrap (s.ticks + 1) = s.ticks + 1 := by have := h.tk0; have := h.tk1; rw [IntKind.wrap_i64]; omega
  refine { h1 with tk0 := ?_, tk1 := ?_ }
  · show 0 ≤ IntKind.i64.wrap (s.ticks + 1); rw [e]; have := h.tk0; omega
  · show IntKind.i64.wrap (s.ticks + 1) ≤ _; rw [e]; have := h.tk1; omega
def tickN (s : Cs) (i : Nat) : Cs := (List.range i).foldl (fun x i => tick1 i x) (tick0 s)
theorem tickN_succ (s : Cs) (i : Nat) : tickN s (i + 1) = tick1 i (tickN s i) := by unfold tickN; rw [List.range_succ, List.foldl_append]; rfl
theorem tickN_ok {s : Cs} {n : Nat} (h : CsOk s n) (hn : n ≤ 10000) : ∀ i, CsOk (tickN s i) (n + 1 + i) ∧ (tickN s i).sinks = s.sinks
  | 0 => ⟨tick0_ok h hn, (serveAll_ok h).2.1⟩
  | i + 1 => by
    rw [tickN_succ]
    obtain ⟨h1, h2⟩ := tickN_ok h hn i
    exact ⟨tick1_ok h1 i, (tick1_same i _).1.trans h2⟩
theorem tickS_N {s : Cs} {n : Nat} (h : CsOk s n) : tickS s = tickN s s.sinks.length := rfl
theorem tickS_ok {s : Cs} {n : Nat} (h : CsOk s n) (hn : n ≤ 10000) : CsOk (tickS s) (n + 5) := by
  rw [tickS_N h]
  exact (tickN_ok h hn s.sinks.length).1.mono (by have := h.sinks; omega)
theorem rs_dup {a : Option Addr} {l : List Value} {H R : HP} [t : Take (rs a l) H R] : Ent H (rs a l * (rs a l * R)) := by
  rw [t.eq]
  conv => lhs; rw [rs_self]
  rw [sep_assoc]; exact Ent.refl _
theorem ent_owL (el sz : Nat) (a : Option Addr) (m cap : Nat) {l l' : List Value} {H R : HP} [h : HasO H el sz a m cap l R] (hl : l = l') : Ent H (ow el sz a m cap l' * R) := hl ▸ h.ent
set_option linter.unusedVariables false
set_option linter.unusedSimpArgs false
attribute [local irreducible] Ops Ex Spec T V QO OA Rn OS
theorem ex_co {n : Nat} {code : Code} {e : Env} {Φ : Post} {b : Nat} {s : Cs} {H : HP}
    (h : ∀ sa sc_ L pa pc_ bb bs, OaOk s ⟨sa, sc_, L, pa, pc_, bb, bs⟩ → Ex Tryz.prog n code e (cl true b (coc s.bu s.ro s.qu s.ticks sa s.sinks.length sc_ L pa s.pots.length pc_ bb) 102 (0, 0) * (rs sa (s.sinks.flatMap sc) * (CEs L * (ow 108 4 pa s.pots.length pc_ (s.pots.flatMap potc) * (cl true bb (bs.map Bd.bcell) 146 (0, 0) * (Bd.bm bs * H)))))) Φ) : Ex Tryz.prog n code e (CO b s * H) Φ := by
  refine Ex.exh fun y => ?_
  rw [sep_assoc]
  refine Ex.pu fun hy => ?_
  obtain ⟨sa, sc_, L, pa, pc_, bb, bs⟩ := y
  have := h sa sc_ L pa pc_ bb bs hy
  rw [COr_flat]
  exact this
theorem ent_co {b : Nat} {s : Cs} {H : HP} {sa : Option Addr} {sc_ : Nat} {L : Cl} {pa : Option Addr} {pc_ bb : Nat} {bs : List Bd.Br} (h : OaOk s ⟨sa, sc_, L, pa, pc_, bb, bs⟩) : Ent (cl true b (coc s.bu s.ro s.qu s.ticks sa s.sinks.length sc_ L pa s.pots.length pc_ bb) 102 (0, 0) * (rs sa (s.sinks.flatMap sc) * (CEs L * (ow 108 4 pa s.pots.length pc_ (s.pots.flatMap potc) * (cl true bb (bs.map Bd.bcell) 146 (0, 0) * (Bd.bm bs * H)))))) (CO b s * H) := by
  rw [← COr_flat]; exact co_mk h
set_option maxRecDepth 100000 in
set_option maxHeartbeats 32000000 in
theorem coTick {X H : HP} (b : Nat) (s : Cs) [t : Take (CO b s) X H] {n : Nat} (ok : CsOk s n) (hn : n ≤ 9000) :
    Spec Tryz.prog 67 [.pointer (some ⟨b, 0, none⟩)] X (X := Unit) (fun _ => .tuple #[]) (fun _ => True) (fun _ => CO b (tickS s) * H) := by
  have hsrv := fun (X' H' : HP) (h : Take (CO b s) X' H') => coServe b s (t := h) ok (by omega)
  refine spec_of Tryz.func67 rfl Tryz.ntmps67 rfl ?_
  repeat' (first | (refine rG 0 [0] ?_; ((try refine wO ?_) <;> (try ((refine o_callH (hsrv _ _ t) (by first | exact True.intro | (show _ < _; decide)) rfl rfl (fun _ _ => ?_)))) <;> (try (refine wK ?_; intro _)))) | refine wC ?_ | (refine ex_split rfl ?_ ?_ <;> intro hc))
  obtain ⟨ok0, es1, es2, es3, es4, es5, es6⟩ := serveAll_ok ok
  refine ex_co fun sa sc_ L pa pc_ bb bs oo => ?_
  have hticks : (coc (serveAll s).bu (serveAll s).ro (serveAll s).qu (serveAll s).ticks sa (serveAll s).sinks.length sc_ L pa (serveAll s).pots.length pc_ bb)[0 + 14]? = some (.int .i64 s.ticks) := by
    obtain ⟨x0, x1, x2, x3, x4, x5, x6, x7, rfl⟩ := list8 (show L.length = 8 from oo.l8)
    rw [es2]; rfl
  have hblt : Nat.blt (0 + 14) (coc (serveAll s).bu (serveAll s).ro (serveAll s).qu (serveAll s).ticks sa (serveAll s).sinks.length sc_ L pa (serveAll s).pots.length pc_ bb).length = true := by
    obtain ⟨x0, x1, x2, x3, x4, x5, x6, x7, rfl⟩ := list8 (show L.length = 8 from oo.l8)
    rfl
  have hst : ∀ v, spl (coc (serveAll s).bu (serveAll s).ro (serveAll s).qu (serveAll s).ticks sa (serveAll s).sinks.length sc_ L pa (serveAll s).pots.length pc_ bb) (0 + 14) [.int .i64 v] = coc (serveAll s).bu (serveAll s).ro (serveAll s).qu v sa (serveAll s).sinks.length sc_ L pa (serveAll s).pots.length pc_ bb := by
    intro v
    obtain ⟨x0, x1, x2, x3, x4, x5, x6, x7, rfl⟩ := list8 (show L.length = 8 from oo.l8)
    rfl
  repeat' (first | (refine ex_regk (id := 1) (ts := [0]) ?_; ((try (first | refine o_mv (v := .pointer _) (by decide) rfl ?_ | refine o_mv (by decide) rfl ?_)) <;> (try (first | refine o_nil (by decide) rfl ?_ | refine o_nil_func (by decide) rfl ?_)) <;> (try (refine o_fieldAddr' (by decide) rfl ?_)) <;> (try (refine o_load_s (v := .int .i64 s.ticks) (by decide) rfl hticks ?_)) <;> (try (refine o_int (by decide) rfl rfl rfl ?_)) <;> (try (first | refine o_nil (by decide) rfl ?_ | refine o_nil_func (by decide) rfl ?_)) <;> (try (refine o_fieldAddr' (by decide) rfl ?_)) <;> (try ((refine o_store_s (v := .int _ _) rfl rfl rfl hblt ?_))) <;> (try (refine ops_nilk ?_; intro _)) <;> (try ((first | refine keep_cons (v := .pointer _) rfl ?_ | refine keep_cons (v := _) rfl ?_))) <;> (try refine keep_nil ?_))) | refine wC ?_ | (refine ex_split rfl ?_ ?_ <;> intro hc))
  refine Ex.ent ?_ (ent_clL (b := b) (l' := coc (tick0 s).bu (tick0 s).ro (tick0 s).qu (tick0 s).ticks sa (tick0 s).sinks.length sc_ L pa (tick0 s).pots.length pc_ bb) (hst _))
  repeat' (first | (refine ex_regk (id := 2) (ts := [0, 20, 21, 22]) ?_; ((try (first | refine o_mv (v := .pointer _) (by decide) rfl ?_ | refine o_mv (by decide) rfl ?_)) <;> (try (first | refine o_nil (by decide) rfl ?_ | refine o_nil_func (by decide) rfl ?_)) <;> (try (refine o_fieldAddr' (by decide) rfl ?_)) <;> (try (refine o_fieldAddr' (by decide) rfl ?_)) <;> (try (refine o_load_s (v := .slice sa (tick0 s).sinks.length sc_) (by decide) rfl rfl ?_)) <;> (try (refine o_len (by decide) rfl rfl ?_)) <;> (try (first | refine o_mv (v := .int _ _) (by decide) rfl ?_ | refine o_mv (by decide) rfl ?_)) <;> (try (refine ops_nilk ?_; intro _)) <;> (try ((first | refine keep_cons (v := .pointer _) rfl ?_ | refine keep_cons (v := _) rfl ?_) <;> (first | refine keep_cons (v := .slice _ _ _) rfl ?_ | refine keep_cons (v := _) rfl ?_) <;> (first | refine keep_cons (v := .int _ _) rfl ?_ | refine keep_cons (v := _) rfl ?_) <;> (first | refine keep_cons (v := .int _ _) rfl ?_ | refine keep_cons (v := _) rfl ?_))) <;> (try refine keep_nil ?_))) | refine wC ?_ | (refine ex_split rfl ?_ ?_ <;> intro hc))
  have oo1 : OaOk (tick0 s) ⟨sa, sc_, L, pa, pc_, bb, bs⟩ := ⟨oo.l8, oo.cells, oo.pc, oo.sc, oo.b8, oo.told, oo.tc⟩
  have hsk : (tick0 s).sinks = s.sinks := es1
  refine Ex.ent (H' := (cl true b (coc (tick0 s).bu (tick0 s).ro (tick0 s).qu (tick0 s).ticks sa (tick0 s).sinks.length sc_ L pa (tick0 s).pots.length pc_ bb) 102 (0, 0) * (rs sa ((tick0 s).sinks.flatMap sc) * (CEs L * (ow 108 4 pa (tick0 s).pots.length pc_ ((tick0 s).pots.flatMap potc) * (cl true bb (bs.map Bd.bcell) 146 (0, 0) * (Bd.bm bs * H))))))) ?_ (Ent.ofEq rfl)
  refine Ex.ent ?_ (Ent.trans (rs_dup (a := sa) (l := (tick0 s).sinks.flatMap sc)) (Ent.frameL (Ent.trans ent_take (ent_co (b := b) (H := H) oo1)) _))
  have hlen4 : (tick0 s).sinks.length ≤ 4 := by rw [hsk]; exact ok.sinks
  refine ex_loopE (fun mm e H' => ∃ g, ∃ i : Nat, e = put (put (put (put g 0 (.pointer (some ⟨b, 0, none⟩))) 20 (.slice sa (tick0 s).sinks.length sc_)) 21 (.int .i64 ((tick0 s).sinks.length : Int))) 22 (.int .i64 (i : Int)) ∧
    H' = rs sa ((tick0 s).sinks.flatMap sc) * (CO b (tickN s i) * H) ∧ i ≤ (tick0 s).sinks.length ∧ mm = (tick0 s).sinks.length - i) (m := (tick0 s).sinks.length) ⟨_, 0, rfl, rfl, by omega, rfl⟩ ?_ ?_
  · exact Ent.refl _
  · clear oo hticks hblt hst oo1
    rintro mm e H' ⟨g, i, rfl, rfl, hi, rfl⟩
    obtain ⟨okx, hsx⟩ := tickN_ok ok (by omega) i
    by_cases hlt : i < (tick0 s).sinks.length
    · have hd : decide ((i : Int) < ((tick0 s).sinks.length : Int)) = true := decide_eq_true (by omega)
      have h0 : 0 ≤ (i : Int) := by omega
      have h1 : (i : Int) < ((tick0 s).sinks.length : Int) := by omega
      have ei : IntKind.i64.wrap ((i : Int) + 1) = ((i + 1 : Nat) : Int) := by rw [IntKind.wrap_i64]; omega
      refine Ex.rd_some (a := sa) (l := (tick0 s).sinks.flatMap sc) (by rw [flat_len sc_len]; omega) (fun sad ha => ?_)
      subst ha
      have hv : sub ((tick0 s).sinks.flatMap sc) ((i : Int).toNat * 5) 5 = some (sc (tick0 s).sinks[i]) := by rw [Int.toNat_natCast]; exact sub_flat sc_len _ i hlt
      have hkx : (tickN s i).sinks[i]? = some (tick0 s).sinks[i] := by rw [hsx, ← hsk]; exact List.getElem?_eq_getElem hlt
      have hsu := tickN_succ s i
      generalize (tick0 s).sinks[i] = k at *
      have hpl := okx.pots
      generalize tickN s i = x at *
      obtain ⟨hix, _⟩ := List.getElem?_eq_some_iff.1 hkx
      have hip : i < x.pots.length := by omega
      have hpx := List.getElem?_eq_getElem hip
      have ht1 := tick1_eq hkx hpx
      have hkind : (x.pots[i]).1 = k.2.2.2.1 := by
        have h2 := congrArg (fun l => l[i]?) okx.kinds
        simp only [List.getElem?_map, hkx, hpx, Option.map_some] at h2
        exact Option.some.inj h2
      generalize hpg : x.pots[i] = pp at *
      obtain ⟨kd, p⟩ := pp
      have hkind : kd = k.2.2.2.1 := hkind
      subst hkind
      have hep := epoch k x.ticks
      have hri0 : rel i k p x.ticks = ((i : Int), (ep k x.ticks).1, if few p k then 0 else p.2.1, few p k) := rfl
      repeat' (first | (refine rG 3 [0, 20, 21, 22, 23] ?_; ((try (refine wK ?_; intro _)))) | (refine ex_regk (id := 4) (ts := [0, 2, 3, 20, 21, 22]) ?_; ((try (first | refine o_mv (v := .int _ _) (by decide) rfl ?_ | refine o_mv (by decide) rfl ?_)) <;> (try (refine o_index (by decide) rfl rfl (by first | decide | assumption | omega) (by first | decide | assumption | omega) ?_)) <;> (try (refine o_load_ra (vs := sc k) (by decide) rfl hv ?_)) <;> (try ((refine o_alloc_a (by decide) (fun b3 => ?_)))) <;> (try (first | refine o_as (v := .int _ _) (by decide) rfl ?_ | refine o_as (by decide) rfl ?_)) <;> (try (first | refine o_store_a rfl rfl rfl rfl rfl ?_ | refine o_store_oa rfl rfl rfl (Nat.succ_pos _) rfl (by assumption) ?_)) <;> (try (refine ops_nilk ?_; intro _)) <;> (try ((first | refine keep_cons (v := .pointer _) rfl ?_ | refine keep_cons (v := _) rfl ?_) <;> (first | refine keep_cons (v := .int _ _) rfl ?_ | refine keep_cons (v := _) rfl ?_) <;> (first | refine keep_cons (v := .pointer _) rfl ?_ | refine keep_cons (v := _) rfl ?_) <;> (first | refine keep_cons (v := .slice _ _ _) rfl ?_ | refine keep_cons (v := _) rfl ?_) <;> (first | refine keep_cons (v := .int _ _) rfl ?_ | refine keep_cons (v := _) rfl ?_) <;> (first | refine keep_cons (v := .int _ _) rfl ?_ | refine keep_cons (v := _) rfl ?_))) <;> (try refine keep_nil ?_))) | refine wC ?_ | (refine ex_split rfl ?_ ?_ <;> intro hc))
      refine Ex.ent ?_ (ent_clL (b := b3) (l' := sc k) rfl)
      refine Ex.ent ?_ (ent_head (CO b x))
      refine ex_co fun sa2 sc2 L pa pc_ bb bs oo => ?_
      have hticks : (coc x.bu x.ro x.qu x.ticks sa2 x.sinks.length sc2 L pa x.pots.length pc_ bb)[0 + 14]? = some (.int .i64 x.ticks) := by
        obtain ⟨x0, x1, x2, x3, x4, x5, x6, x7, rfl⟩ := list8 (show L.length = 8 from oo.l8)
        rfl
      have hpots : (coc x.bu x.ro x.qu x.ticks sa2 x.sinks.length sc2 L pa x.pots.length pc_ bb)[0 + 12]? = some (.slice pa x.pots.length pc_) := by
        obtain ⟨x0, x1, x2, x3, x4, x5, x6, x7, rfl⟩ := list8 (show L.length = 8 from oo.l8)
        rfl
      have hboard : (coc x.bu x.ro x.qu x.ticks sa2 x.sinks.length sc2 L pa x.pots.length pc_ bb)[0 + 13]? = some (.pointer (some ⟨bb, 0, none⟩)) := by
        obtain ⟨x0, x1, x2, x3, x4, x5, x6, x7, rfl⟩ := list8 (show L.length = 8 from oo.l8)
        rfl
      generalize hE : ep k x.ticks = E at *
      obtain ⟨en, eb⟩ := E
      have hi64 : i < 9 := by omega
      repeat' (first | (refine rA 5 [0, 2, 3, 4, 5, 20, 21, 22] 11 ?_; (refine os_all ?_); ((refine lC (v := ?_) 0 ?_ ?_; rotate_left; (focus ((refine o_load_a (vs := sc k) (by decide) rfl rfl ?_) <;> exact lL)); ((refine lQ 1 ?_; ((refine lQ 2 ?_; ((refine lQ 3 ?_; ((refine lC (v := ?_) 4 ?_ ?_; rotate_left; (focus ((refine o_load_s (v := .int .i64 x.ticks) (by decide) rfl hticks ?_) <;> exact lL)); ((refine lC (v := ?_) 5 ?_ ?_; rotate_left; (focus ((refine o_call hep (by first | exact True.intro | (show _ < _; decide)) rfl rfl (fun _ _ => ?_)) <;> exact lL)); ((refine lQ 6 ?_; ((refine lQ 7 ?_; ((refine lQ 8 ?_; ((refine lQ 9 ?_; ((refine lQ 10 ?_; ((refine dK ?_; intro _))))))))))))))))))))))))) | refine wC ?_ | (refine ex_split rfl ?_ ?_ <;> intro hc))
      all_goals
        cases eb with
        | false =>
          repeat' (first | (refine rG 6 [0, 2, 3, 4, 20, 21, 22, 37] ?_; ((try (refine wK ?_; intro _)))) | (refine rG 12 [0, 20, 21, 22] ?_; ((try (refine wK ?_; intro _)))) | refine wC ?_ | (refine ex_split rfl ?_ ?_ <;> intro hc))
          rw [ei]
          refine ⟨(tick0 s).sinks.length - (i + 1), by omega, _, ?_, _, i + 1, rfl, rfl, by omega, rfl⟩
          rw [hsu, ht1, if_neg (show ¬ (false = true) by decide)]
          exact Ent.trans (B := rs (some sad) ((tick0 s).sinks.flatMap sc) * (cl true b (coc x.bu x.ro x.qu x.ticks sa2 x.sinks.length sc2 L pa x.pots.length pc_ bb) 102 (0, 0) * (rs sa2 (x.sinks.flatMap sc) * (CEs L * (ow 108 4 pa x.pots.length pc_ (x.pots.flatMap potc) * (cl true bb (bs.map Bd.bcell) 146 (0, 0) * (Bd.bm bs * H))))))) ent_take (Ent.frameL (ent_co (H := H) oo) _)
        | true =>
          rw [if_pos rfl] at ht1
          refine Ex.rd_some (a := pa) (l := x.pots.flatMap potc) (by rw [flat_len potc_len]; omega) (fun pad ha => ?_)
          subst ha
          have hp1 : (i : Int) < (x.pots.length : Int) := by omega
          have hvp : sub (x.pots.flatMap potc) ((i : Int).toNat * 4) 4 = some (potc (k.2.2.2.1, p)) := by rw [Int.toNat_natCast, ← hpg]; exact sub_flat potc_len _ i hip
          have htell := tell k.2.2.2.1 p k (i : Int) en
          have hfit : (i : Int).toNat * 4 + (pcl k.2.2.2.1 (0, 0, 0)).length ≤ (x.pots.flatMap potc).length := by
            rw [flat_len potc_len, Int.toNat_natCast]; show i * 4 + 4 ≤ _; omega
          have hspl : spl (x.pots.flatMap potc) ((i : Int).toNat * 4) (pcl k.2.2.2.1 (0, 0, 0)) = (x.pots.set i (k.2.2.2.1, (0, 0, 0))).flatMap potc := by
            rw [Int.toNat_natCast]; exact flat_spl1 potc_len x.pots i hip (k.2.2.2.1, (0, 0, 0))
          have hrel : rel i k p x.ticks = ((i : Int), en, if few p k then 0 else p.2.1, few p k) := hri0
          have hbl : ∀ j (h : j < bs.length), (bs[j]).2.2.length ≤ 100000 ∧ (bs[j]).2.2.length ≤ (bs[j]).2.1 := by
            intro j h
            refine ⟨?_, oo.tc j h⟩
            have hm : (bs[j]).2.2 ∈ x.told := by rw [← oo.told]; exact List.mem_map.2 ⟨bs[j], List.getElem_mem h, rfl⟩
            have := okx.told _ hm
            omega
          have hb8 : bs.length = 8 := oo.b8
          repeat' (first | (refine rG 6 [0, 2, 3, 4, 20, 21, 22, 37] ?_; ((try (refine wK ?_; intro _)))) | refine wC ?_ | (refine ex_split rfl ?_ ?_ <;> intro hc))
          repeat' (first | (refine rA 7 [0, 2, 3, 6, 20, 21, 22] 13 ?_; (refine os_all ?_); ((refine lQ 0 ?_; ((refine lQ 1 ?_; ((refine lQ 2 ?_; ((refine lC (v := ?_) 3 ?_ ?_; rotate_left; (focus ((refine o_load_s (v := .slice (some pad) x.pots.length pc_) (by decide) rfl hpots ?_) <;> exact lL)); ((refine lQ 4 ?_; ((refine lQ 5 ?_; ((refine lC (v := ?_) 6 ?_ ?_; rotate_left; (focus ((refine o_load_ra (vs := potc (k.2.2.2.1, p)) (by decide) rfl hvp ?_) <;> exact lL)); ((refine lC (v := ?_) 7 ?_ ?_; rotate_left; (focus ((refine o_load_a (vs := sc k) (by decide) rfl rfl ?_) <;> exact lL)); ((refine lQ 8 ?_; ((refine lQ 9 ?_; ((refine lC (v := ?_) 10 ?_ ?_; rotate_left; (focus ((refine o_call htell (by first | exact True.intro | (show _ < _; decide)) rfl rfl (fun _ _ => ?_)) <;> exact lL)); ((refine oN 11 ?_ <;> ((refine o_alloc_a (by decide) (fun b6 => ?_))) <;> (refine os_nil ?_) <;> ((refine oN 12 ?_ <;> (refine wO ?_) <;> (refine os_nil ?_) <;> ((refine dK ?_; intro _))))))))))))))))))))))))))))) | refine wC ?_ | (refine ex_split rfl ?_ ?_ <;> intro hc))
          all_goals
            refine Ex.ent ?_ (ent_clL (b := b6) (l' := Bd.lc (rel i k p x.ticks)) (by rw [hrel]; rfl))
            repeat' (first | (refine rA 8 [0, 3, 6, 20, 21, 22] 9 ?_; (refine os_butP (ow 108 4 (some pad) x.pots.length pc_ (x.pots.flatMap potc)) ?_); ((refine lQ 0 ?_; ((refine lQ 1 ?_; ((refine lQ 2 ?_; ((refine lC (v := ?_) 3 ?_ ?_; rotate_left; (focus ((refine o_load_s (v := .slice (some pad) x.pots.length pc_) (by decide) rfl hpots ?_) <;> exact lL)); ((refine lQ 4 ?_; ((refine lC (v := ?_) 5 ?_ ?_; rotate_left; (focus ((refine o_load_a (vs := sc k) (by decide) rfl rfl ?_) <;> exact lL)); ((refine lC (v := ?_) 6 ?_ ?_; rotate_left; (focus ((refine o_call (snew k) (by first | exact True.intro | (show _ < _; decide)) rfl rfl (fun _ _ => ?_)) <;> exact lL)); ((refine lQ 7 ?_; ((refine oN 8 ?_ <;> (refine o_store_oa rfl rfl rfl (Nat.succ_pos _) rfl hfit ?_) <;> (refine os_nil ?_) <;> ((refine dK ?_; intro _))))))))))))))))))))) | refine wC ?_ | (refine ex_split rfl ?_ ?_ <;> intro hc))
            all_goals
              refine Ex.ent ?_ (ent_owL 108 4 (some pad) x.pots.length pc_ (l' := (x.pots.set i (k.2.2.2.1, (0, 0, 0))).flatMap potc) hspl)
              generalize hrg : rel i k p x.ticks = r at *
              have hpin := fun (b64 : Nat) => Bd.pin bb (ow 79 4 (some ⟨b64, 0, none⟩) 1 1 ([r].flatMap Bd.lc)) bs k.2.1 (some ⟨b64, 0, none⟩) [r] 1 (hr := rdc_ow1 _ _ _ _ _ _) hb8 hbl (by simp)
              repeat' (first | (refine rA 9 [0, 6, 20, 21, 22] 9 ?_; (refine os_butP (cl true bb (bs.map Bd.bcell) 146 (0, 0) * Bd.bm bs) ?_); ((refine lQ 0 ?_; ((refine lQ 1 ?_; ((refine lQ 2 ?_; ((refine lC (v := ?_) 3 ?_ ?_; rotate_left; (focus ((refine o_load_s (v := .pointer (some ⟨bb, 0, none⟩)) (by decide) rfl hboard ?_) <;> exact lL)); ((refine lQ 4 ?_; ((refine lC (v := ?_) 5 ?_ ?_; rotate_left; (focus ((refine o_load_s (v := .int .u64 (U k.2.1)) (by decide) rfl rfl ?_) <;> exact lL)); ((refine lC (v := ?_) 6 ?_ ?_; rotate_left; (focus ((refine o_load_a (vs := Bd.lc r) (by decide) rfl rfl ?_) <;> exact lL)); ((refine oN 7 ?_ <;> ((refine o_buildSlice (by decide) rfl rfl rfl (fun b64 => ?_); refine Ops.ent ?_ (ent_owL 79 4 (some ⟨b64, 0, none⟩) 1 1 (l' := [r].flatMap Bd.lc) rfl))) <;> (refine os_nil ?_) <;> ((refine oN 8 ?_ <;> ((refine o_call (hpin _) (by first | exact True.intro | (show _ < _; decide)) rfl rfl (fun bs2 hbs2 => ?_))) <;> (refine os_nil ?_) <;> ((refine dK ?_; intro _))))))))))))))))))))) | refine wC ?_ | (refine ex_split rfl ?_ ?_ <;> intro hc))
              all_goals
                obtain ⟨hb28, hb2⟩ := hbs2
                have hpl2 : (told1 i k p x).pots.length = x.pots.length := List.length_set
                have oo2 : OaOk (told1 i k p x) ⟨sa2, sc2, L, some pad, pc_, bb, bs2⟩ := by
                  refine ⟨oo.l8, oo.cells, by rw [hpl2]; exact oo.pc, oo.sc, hb28, ?_, ?_⟩
                  · show bs2.map (·.2.2) = pinAll k.2.1 (rel i k p x.ticks) x.told
                    rw [← oo.told, hrg]
                    unfold pinAll
                    apply List.ext_getElem
                    · simp [hb28, hb8]
                    · intro j h3 h4
                      simp only [List.getElem_map, List.getElem_mapIdx]
                      exact (hb2 j (by simp at h3; omega) (by simpa using h3)).1
                  · intro j h
                    exact (hb2 j (by simp only at h; omega) h).2
                refine Ex.ent (H' := rs (some sad) ((tick0 s).sinks.flatMap sc) * (CO b (told1 i k p x) * (cl true b6 (Bd.lc r) 79 (0, 0) * H))) ?_ (Ent.trans (B := rs (some sad) ((tick0 s).sinks.flatMap sc) * (cl true b (coc (told1 i k p x).bu (told1 i k p x).ro (told1 i k p x).qu (told1 i k p x).ticks sa2 (told1 i k p x).sinks.length sc2 L (some pad) (told1 i k p x).pots.length pc_ bb) 102 (0, 0) * (rs sa2 ((told1 i k p x).sinks.flatMap sc) * (CEs L * (ow 108 4 (some pad) (told1 i k p x).pots.length pc_ ((told1 i k p x).pots.flatMap potc) * (cl true bb (bs2.map Bd.bcell) 146 (0, 0) * (Bd.bm bs2 * (cl true b6 (Bd.lc r) 79 (0, 0) * H)))))))) (by
                    rw [hpl2]
                    show Ent _ (rs (some sad) ((tick0 s).sinks.flatMap sc) * (cl true b (coc x.bu x.ro x.qu x.ticks sa2 x.sinks.length sc2 L (some pad) x.pots.length pc_ bb) 102 (0, 0) * (rs sa2 (x.sinks.flatMap sc) * (CEs L * (ow 108 4 (some pad) x.pots.length pc_ ((x.pots.set i (k.2.2.2.1, (0, 0, 0))).flatMap potc) * (cl true bb (bs2.map Bd.bcell) 146 (0, 0) * (Bd.bm bs2 * (cl true b6 (Bd.lc r) 79 (0, 0) * H))))))))
                    exact ent_take) (Ent.frameL (ent_co (H := cl true b6 (Bd.lc r) 79 (0, 0) * H) oo2) _))
                have hr3 : r.2.2.2 = few p k := by rw [← hrg]; rfl
                have hr1 : r.1 = (i : Int) := by rw [← hrg]; rfl
                have ok1 := told1_ok okx hkx p
                have hk1 : (told1 i k p x).sinks[i]? = some k := hkx
                cases hfw : few p k with
                | true =>
                  have hd10 : (!r.2.2.2) = false := by rw [hr3, hfw]; rfl
                  repeat' (first | (refine rG 10 [0, 6, 20, 21, 22, 68] ?_; ((try (refine wK ?_; intro _)))) | (refine rG 12 [0, 20, 21, 22] ?_; ((try (refine wK ?_; intro _)))) | refine wC ?_ | (refine ex_split rfl ?_ ?_ <;> intro hc))
                  rw [ei]
                  refine ⟨(tick0 s).sinks.length - (i + 1), by omega, _, ?_, _, i + 1, rfl, rfl, by omega, rfl⟩
                  rw [hsu, ht1, hfw, if_pos rfl]
                  exact ent_take
                | false =>
                  have hd10 : (!r.2.2.2) = true := by rw [hr3, hfw]; rfl
                  repeat' (first | (refine rG 10 [0, 6, 20, 21, 22, 68] ?_; ((try (refine wK ?_; intro _)))) | (refine ex_regk (id := 11) (ts := [0, 20, 21, 22]) ?_; ((try (first | refine o_mv (v := .pointer _) (by decide) rfl ?_ | refine o_mv (by decide) rfl ?_)) <;> (try (refine o_load_a (vs := Bd.lc r) (by decide) rfl rfl ?_)) <;> (try ((refine o_callH (coFeed b (told1 i k p x) r i k ok1 (by omega) hk1 hr1) (by first | exact True.intro | (show _ < _; decide)) rfl rfl (fun _ _ => ?_)))) <;> (try (refine ops_nilk ?_; intro _)) <;> (try ((first | refine keep_cons (v := .pointer _) rfl ?_ | refine keep_cons (v := _) rfl ?_) <;> (first | refine keep_cons (v := .slice _ _ _) rfl ?_ | refine keep_cons (v := _) rfl ?_) <;> (first | refine keep_cons (v := .int _ _) rfl ?_ | refine keep_cons (v := _) rfl ?_) <;> (first | refine keep_cons (v := .int _ _) rfl ?_ | refine keep_cons (v := _) rfl ?_))) <;> (try refine keep_nil ?_))) | refine wC ?_ | (refine ex_split rfl ?_ ?_ <;> intro hc))
                  repeat' (first | (refine rG 12 [0, 20, 21, 22] ?_; ((try (refine wK ?_; intro _)))) | refine wC ?_ | (refine ex_split rfl ?_ ?_ <;> intro hc))
                  rw [ei]
                  refine ⟨(tick0 s).sinks.length - (i + 1), by omega, _, ?_, _, i + 1, rfl, rfl, by omega, rfl⟩
                  rw [hsu, ht1, hfw, if_neg (show ¬ (false = true) by decide)]
                  exact ent_take
    · have hil : i = (tick0 s).sinks.length := by omega
      subst hil
      have hd : decide (((tick0 s).sinks.length : Int) < ((tick0 s).sinks.length : Int)) = false := by simp
      repeat' (first | (refine rG 3 [0, 20, 21, 22, 23] ?_; ((try (refine wK ?_; intro _)))) | refine wC ?_ | (refine ex_split rfl ?_ ?_ <;> intro hc))
      refine fin (.inl rfl) () (resl0 rfl) trivial ?_
      rw [tickS_N ok, ← hsk]
      exact ent_take
end Go.Proofs.YtcelailgedndnaaGreatS
namespace Go.Proofs.YtcelailgedndnaaGreatS
open Go.RowKit
set_option linter.unusedVariables false
set_option linter.unusedSimpArgs false
set_option linter.unusedVariables false
set_option linter.unusedSimpArgs false
attribute [local irreducible] Ops Ex Spec T V QO OA Rn OS
theorem toldNone (b : Nat) (i f n : Int) (H : HP) (h : ¬ (0 ≤ i ∧ i ≤ 7)) :
    Spec Tryz.prog 68 [.pointer (some ⟨b, 0, none⟩), .int .i64 i, .int .i64 f, .int .i64 n] H (X := Unit) (fun _ => .tuple #[.slice none 0 0, .int .i64 2]) (fun _ => True) (fun _ => H) := by
  have d : (decide (i ≥ 0) && decide (i < 8)) = false := by
    rcases Decidable.not_and_iff_or_not.1 h with h | h
    · rw [decide_eq_false (show ¬ i ≥ 0 from h)]; rfl
    · rw [decide_eq_false (show ¬ i < 8 by omega), Bool.and_false]
  refine spec_of Tryz.func68 rfl Tryz.ntmps68 rfl ?_
  repeat' (first | (refine rG 0 [0, 1, 2, 3] ?_; ((try (refine wK ?_; intro _)))) | (refine rG 1 [0, 1, 2, 3, 13] ?_; ((try refine wO ?_) <;> (try ((refine o_call (Bd.there _) (by first | exact True.intro | (show _ < _; decide)) rfl rfl (fun _ _ => ?_); rw [d]))) <;> (try (refine wK ?_; intro _)))) | (refine rG 2 [8, 9] ?_; ((try (refine wK ?_; intro _)))) | refine wC ?_ | (refine ex_split rfl ?_ ?_ <;> intro hc))
  exact fin (.inr rfl) () (resl2 rfl (rv_tmp rfl) (rv_tmp rfl)) trivial ent_take
theorem toldRange (b : Nat) (H : HP) (bs : List Bd.Br) (i : Nat) (f n : Int) (hi : i < bs.length) (h8 : bs.length = 8) (hf : f < 0 ∨ f > ((bs[i]).2.2.length : Int)) :
    Spec Tryz.prog 68 [.pointer (some ⟨b, 0, none⟩), .int .i64 (i : Int), .int .i64 f, .int .i64 n] (cl true b (bs.map Bd.bcell) 146 (0, 0) * H) (X := Unit) (fun _ => .tuple #[.slice none 0 0, .int .i64 5]) (fun _ => True) (fun _ => cl true b (bs.map Bd.bcell) 146 (0, 0) * H) := by
  have d : (decide ((i : Int) ≥ 0) && decide ((i : Int) < 8)) = true := by rw [decide_eq_true (by omega : (i : Int) ≥ 0), decide_eq_true (by omega : (i : Int) < 8)]; rfl
  have h0 : 0 ≤ (i : Int) := by omega
  have h1 : (i : Int) < 8 := by omega
  have hv : (bs.map Bd.bcell)[(i : Int).toNat * 1]? = some (Bd.bcell bs[i]) := by rw [Int.toNat_natCast, Nat.mul_one, List.getElem?_map, List.getElem?_eq_getElem hi]; rfl
  generalize bs[i] = R at *
  obtain ⟨ra, rc, rl⟩ := R
  have hf : f < 0 ∨ f > (rl.length : Int) := hf
  have hv : (bs.map Bd.bcell)[(i : Int).toNat * 1]? = some (.slice ra rl.length rc) := hv
  have hd : decide (f < 0) = true ∨ (decide (f < 0) = false ∧ decide (f > (rl.length : Int)) = true) := by
    by_cases h : f < 0
    · exact .inl (decide_eq_true h)
    · exact .inr ⟨decide_eq_false h, decide_eq_true (by omega)⟩
  rcases hd with hd | ⟨hd, hd2⟩
  all_goals
    refine spec_of Tryz.func68 rfl Tryz.ntmps68 rfl ?_
    repeat' (first | (refine rG 0 [0, 1, 2, 3] ?_; ((try (refine wK ?_; intro _)))) | (refine rG 1 [0, 1, 2, 3, 13] ?_; ((try refine wO ?_) <;> (try ((refine o_call (Bd.there _) (by first | exact True.intro | (show _ < _; decide)) rfl rfl (fun _ _ => ?_); rw [d]))) <;> (try (refine wK ?_; intro _)))) | (refine ex_regk (id := 3) (ts := [2, 3, 10]) ?_; ((try (first | refine o_mv (v := .pointer _) (by decide) rfl ?_ | refine o_mv (by decide) rfl ?_)) <;> (try (first | refine o_mv (v := .int _ _) (by decide) rfl ?_ | refine o_mv (by decide) rfl ?_)) <;> (try (first | refine o_nil (by decide) rfl ?_ | refine o_nil_func (by decide) rfl ?_)) <;> (try (refine o_fieldAddr' (by decide) rfl ?_)) <;> (try (refine o_indexA (by decide) rfl rfl (by first | decide | assumption | omega) (by first | decide | assumption | omega) ?_)) <;> (try (refine o_load_r (ad := ⟨b, 0, none⟩) (by decide) (by rw [add_none]; simp only [Nat.zero_add]; rfl) hv ?_)) <;> (try (first | refine o_as (v := .slice _ _ _) (by decide) rfl ?_ | refine o_as (by decide) rfl ?_)) <;> (try (refine ops_nilk ?_; intro _)) <;> (try ((first | refine keep_cons (v := .int _ _) rfl ?_ | refine keep_cons (v := _) rfl ?_) <;> (first | refine keep_cons (v := .int _ _) rfl ?_ | refine keep_cons (v := _) rfl ?_) <;> (first | refine keep_cons (v := .slice _ _ _) rfl ?_ | refine keep_cons (v := _) rfl ?_))) <;> (try refine keep_nil ?_))) | (refine rG 4 [2, 3, 10, 27] ?_; ((try refine wO ?_) <;> (repeat' (refine g_split rfl (by decide) rfl (by decide) ?_ ?_ <;> intro hc <;> (try refine wO ?_))) <;> (try (refine wK ?_; intro _)))) | (refine rG 5 [8, 9] ?_; ((try (refine wK ?_; intro _)))) | refine wC ?_ | (refine ex_split rfl ?_ ?_ <;> intro hc))
    exact fin (.inr rfl) () (resl2 rfl (rv_tmp rfl) (rv_tmp rfl)) trivial ent_take
end Go.Proofs.YtcelailgedndnaaGreatS
namespace Go.Proofs.YtcelailgedndnaaGreatS
open Go.RowKit
set_option linter.unusedVariables false
set_option linter.unusedSimpArgs false
/-- An answer's cells. -/
def anc (y : (Option Addr × Nat) × (Option Addr × Nat)) (a : An) : List Value := [.int .i64 a.1, .slice y.1.1 a.2.1.length y.1.2, .slice y.2.1 a.2.2.length y.2.2]
set_option linter.unusedVariables false
set_option linter.unusedSimpArgs false
attribute [local irreducible] Ops Ex Spec T V QO OA Rn OS
/-- An answer's rows and releases. -/
def anm (y : (Option Addr × Nat) × (Option Addr × Nat)) (a : An) : HP := ow 67 5 y.1.1 a.2.1.length y.1.2 (a.2.1.flatMap rwc) * ow 79 4 y.2.1 a.2.2.length y.2.2 (a.2.2.flatMap Bd.lc)
abbrev y0 : (Option Addr × Nat) × (Option Addr × Nat) := ((none, 0), (none, 0))
theorem anm0 (e : Int) (H : HP) : Ent H (anm y0 (e, [], []) * H) := by
  unfold anm
  rw [sep_assoc]
  exact Ent.trans (Ent.ow_none 79 4 H) (Ent.ow_none 67 5 _)
set_option maxRecDepth 100000 in
set_option maxHeartbeats 32000000 in
theorem coDo {X H : HP} (b : Nat) (s : Cs) (a : Ac) (oa : Option Addr) (ocp : Nat) [t : Take (CO b s) X H] [hr : RdC H oa (a.2.2.2.2.1.1.flatMap oc)] (hl : a.2.2.2.2.1.1.length ≤ 1000000) {n : Nat} (ok : CsOk s n) (hn : n ≤ 9000) :
    Spec Tryz.prog 40 [.pointer (some ⟨b, 0, none⟩), .agg (acc oa ocp a).toArray] X (X := (Option Addr × Nat) × (Option Addr × Nat)) (fun y => .agg (anc y (doS a s).2).toArray) (fun y => (doS a s).2.2.1.length ≤ y.1.2 ∧ (doS a s).2.2.2.length ≤ y.2.2)
      (fun y => anm y (doS a s).2 * (CO b (doS a s).1 * H)) := by
  obtain ⟨kd, tn, fr, nn, p, i⟩ := a
  have hl : p.1.length ≤ 1000000 := hl
  have hr : RdC H oa (p.1.flatMap oc) := hr
  refine spec_of Tryz.func40 rfl Tryz.ntmps40 rfl ?_
  repeat' (first | (refine rG 0 [0, 3, 4] ?_; ((try ((refine o_box (by decide) (v := .agg (acc oa ocp (kd, tn, fr, nn, p, i)).toArray) rfl rfl (fun b3 => ?_)))) <;> (try ((refine o_alloc_a (by decide) (fun b4 => ?_)))) <;> (try (refine wK ?_; intro _)))) | (refine rG 1 [0, 3, 4, 5] ?_; ((try ((refine o_alloc_a (by decide) (fun b5 => ?_)))) <;> (try (refine wK ?_; intro _)))) | refine ex_seq ?_ | refine ex_ret ?_ | refine ex_skip ?_ | refine ex_exit ?_ | refine ex_cond_t rfl ?_ | refine ex_cond_f rfl ?_ | refine ex_cond_t (congrArg Value.bool (by assumption)) ?_ | refine ex_cond_f (congrArg Value.bool (by assumption)) ?_ | (refine ex_split rfl ?_ ?_ <;> intro hc))
  refine Ex.ent ?_ (ent_head (CO b s))
  refine ex_co fun sa sc_ L pa pc_ bb bs oo => ?_
  have hL8 : L.length = 8 := oo.l8
  have hat := fun ty => coAt b s.bu s.ro s.qu s.ticks sa s.sinks.length sc_ L pa s.pots.length pc_ bb tn ty oo.l8 rfl
  have hcell := lk_cell oo.cells tn
  have hsub : sub (acc oa ocp (kd, tn, fr, nn, p, i)) 0 15 = some (acc oa ocp (kd, tn, fr, nn, p, i)) := rfl
  by_cases k1 : kd = 1
  · have hd1 : (kd == 1) = true := by simp [k1]
    have he : doS (kd, tn, fr, nn, p, i) s = ((register tn p s).1, (register tn p s).2, [], []) := by unfold doS; rw [if_pos k1]
    rw [he]
    have hreg := fun (X' H' : HP) (h1 : Take (CO b s) X' H') (h2 : RdC H' oa (p.1.flatMap oc)) => coRegister b s (kd, tn, fr, nn, p, i) oa ocp (t := h1) (hr := h2) hl ok.sinks
    generalize lk L tn = v at *
    cases v <;> (
      repeat' (first | (refine rG 2 [0, 3, 4, 5, 6] ?_; ((try refine wO ?_) <;> (try (refine o_callB (by first | exact True.intro | (show _ < _; decide)) rfl rfl (hat _) (fun _ _ => ?_))) <;> (try (refine wK ?_; intro _)))) | refine ex_seq ?_ | refine ex_ret ?_ | refine ex_skip ?_ | refine ex_exit ?_ | refine ex_cond_t rfl ?_ | refine ex_cond_f rfl ?_ | refine ex_cond_t (congrArg Value.bool (by assumption)) ?_ | refine ex_cond_f (congrArg Value.bool (by assumption)) ?_ | (refine ex_split rfl ?_ ?_ <;> intro hc))
      refine Ex.ent ?_ (Ent.trans (B := (cl true b (coc s.bu s.ro s.qu s.ticks sa s.sinks.length sc_ L pa s.pots.length pc_ bb) 102 (0, 0) * (rs sa (s.sinks.flatMap sc) * (CEs L * (ow 108 4 pa s.pots.length pc_ (s.pots.flatMap potc) * (cl true bb (bs.map Bd.bcell) 146 (0, 0) * (Bd.bm bs * (cl true b5 [.int .i64 0, .slice none 0 0, .slice none 0 0] 49 (0, 0) * (cl true b4 [.int .i64 0, .slice none 0 0, .slice none 0 0] 49 (0, 0) * (cl true b3 (acc oa ocp (kd, tn, fr, nn, p, i)) 41 (0, 0) * H)))))))))) ent_take (ent_co (H := (cl true b5 [.int .i64 0, .slice none 0 0, .slice none 0 0] 49 (0, 0) * (cl true b4 [.int .i64 0, .slice none 0 0, .slice none 0 0] 49 (0, 0) * (cl true b3 (acc oa ocp (kd, tn, fr, nn, p, i)) 41 (0, 0) * H)))) oo))
      repeat' (first | (refine rG 4 [0, 3, 4, 5, 6, 22] ?_; ((try (refine wK ?_; intro _)))) | (refine ex_regk (id := 5) (ts := [4, 5]) ?_; ((try (first | refine o_mv (v := .pointer _) (by decide) rfl ?_ | refine o_mv (by decide) rfl ?_)) <;> (try (refine o_load_a (vs := acc oa ocp (kd, tn, fr, nn, p, i)) (by decide) rfl hsub ?_)) <;> (try ((refine o_callH (hreg _ _ inferInstance inferInstance) (by first | exact True.intro | (show _ < _; decide)) rfl rfl (fun _ _ => ?_)))) <;> (try (refine o_fieldAddr' (by decide) rfl ?_)) <;> (try (first | refine o_store_s (v := .int _ _) rfl rfl rfl rfl ?_ | refine o_store_s rfl rfl rfl rfl ?_ | refine o_store_os (v := .int _ _) rfl rfl rfl (by assumption) ?_)) <;> (try (refine ops_nilk ?_; intro _)) <;> (try ((first | refine keep_cons (v := .pointer _) rfl ?_ | refine keep_cons (v := _) rfl ?_) <;> (first | refine keep_cons (v := .pointer _) rfl ?_ | refine keep_cons (v := _) rfl ?_))) <;> (try refine keep_nil ?_))) | (refine rG 16 [4] ?_; ((try (refine wK ?_; intro _)))) | refine wC ?_ | (refine ex_split rfl ?_ ?_ <;> intro hc))
      refine fin (.inr rfl) y0 (resl1 rfl (rv_cell_a rfl rfl)) ⟨Nat.le_refl _, Nat.le_refl _⟩ ?_
      exact Ent.trans ent_take (anm0 _ _))
  · have hd1 : (kd == 1) = false := by simp [k1]
    by_cases k3 : kd = 3
    · have hd3 : (kd == 3) = true := by simp [k3]
      have he : doS (kd, tn, fr, nn, p, i) s = (tickS s, 0, [], []) := by unfold doS; rw [if_neg k1, if_pos k3]
      rw [he]
      have htick := fun (X' H' : HP) (h1 : Take (CO b s) X' H') => coTick b s (t := h1) ok (by omega)
      generalize lk L tn = v at *
      cases v <;> (
        repeat' (first | (refine rG 2 [0, 3, 4, 5, 6] ?_; ((try refine wO ?_) <;> (try (refine o_callB (by first | exact True.intro | (show _ < _; decide)) rfl rfl (hat _) (fun _ _ => ?_))) <;> (try (refine wK ?_; intro _)))) | refine ex_seq ?_ | refine ex_ret ?_ | refine ex_skip ?_ | refine ex_exit ?_ | refine ex_cond_t rfl ?_ | refine ex_cond_f rfl ?_ | refine ex_cond_t (congrArg Value.bool (by assumption)) ?_ | refine ex_cond_f (congrArg Value.bool (by assumption)) ?_ | (refine ex_split rfl ?_ ?_ <;> intro hc))
        refine Ex.ent ?_ (Ent.trans (B := (cl true b (coc s.bu s.ro s.qu s.ticks sa s.sinks.length sc_ L pa s.pots.length pc_ bb) 102 (0, 0) * (rs sa (s.sinks.flatMap sc) * (CEs L * (ow 108 4 pa s.pots.length pc_ (s.pots.flatMap potc) * (cl true bb (bs.map Bd.bcell) 146 (0, 0) * (Bd.bm bs * (cl true b5 [.int .i64 0, .slice none 0 0, .slice none 0 0] 49 (0, 0) * (cl true b4 [.int .i64 0, .slice none 0 0, .slice none 0 0] 49 (0, 0) * (cl true b3 (acc oa ocp (kd, tn, fr, nn, p, i)) 41 (0, 0) * H)))))))))) ent_take (ent_co (H := (cl true b5 [.int .i64 0, .slice none 0 0, .slice none 0 0] 49 (0, 0) * (cl true b4 [.int .i64 0, .slice none 0 0, .slice none 0 0] 49 (0, 0) * (cl true b3 (acc oa ocp (kd, tn, fr, nn, p, i)) 41 (0, 0) * H)))) oo))
        repeat' (first | (refine rG 4 [0, 3, 4, 5, 6, 22] ?_; ((try (refine wK ?_; intro _)))) | (refine rG 6 [0, 3, 4, 5, 6, 30] ?_; ((try (refine wK ?_; intro _)))) | (refine rG 7 [4, 5] ?_; ((try refine wO ?_) <;> (try ((refine o_callH (htick _ _ inferInstance) (by first | exact True.intro | (show _ < _; decide)) rfl rfl (fun _ _ => ?_)))) <;> (try (refine wK ?_; intro _)))) | (refine rG 16 [4] ?_; ((try (refine wK ?_; intro _)))) | refine wC ?_ | (refine ex_split rfl ?_ ?_ <;> intro hc))
        refine fin (.inr rfl) y0 (resl1 rfl (rv_cell_a rfl rfl)) ⟨Nat.le_refl _, Nat.le_refl _⟩ ?_
        exact Ent.trans ent_take (anm0 _ _))
    · have hd3 : (kd == 3) = false := by simp [k3]
      by_cases k5 : kd = 5
      · have hd5 : (kd == 5) = true := by simp [k5]
        have he : doS (kd, tn, fr, nn, p, i) s = (s, (toldAt tn fr nn s).2, [], (toldAt tn fr nn s).1) := by unfold doS; rw [if_neg k1, if_neg k3, if_pos k5]
        rw [he]
        have hboard : (coc s.bu s.ro s.qu s.ticks sa s.sinks.length sc_ L pa s.pots.length pc_ bb)[0 + 13]? = some (.pointer (some ⟨bb, 0, none⟩)) := by
          obtain ⟨x0, x1, x2, x3, x4, x5, x6, x7, rfl⟩ := list8 hL8
          rfl
        by_cases h7 : 0 ≤ tn ∧ tn ≤ 7
        · have htb : tn.toNat < bs.length := by have : bs.length = 8 := oo.b8; omega
          have htl : (s.told[tn.toNat]?).getD [] = (bs[tn.toNat]).2.2 := by
            rw [← oo.told, List.getElem?_map, List.getElem?_eq_getElem htb]; rfl
          have hb8 : bs.length = 8 := oo.b8
          have htn : ((tn.toNat : Nat) : Int) = tn := by omega
          by_cases hf : fr < 0 ∨ fr > ((bs[tn.toNat]).2.2.length : Int)
          · have ht : toldAt tn fr nn s = ([], 5) := by unfold toldAt; rw [if_neg (not_not_intro h7), htl]; simp only; rw [if_pos hf]
            rw [ht]
            have htold := toldRange bb 1 bs tn.toNat fr nn htb hb8 hf
            rw [htn] at htold
            generalize lk L tn = v at *
            cases v <;> (
              repeat' (first | (refine rG 2 [0, 3, 4, 5, 6] ?_; ((try refine wO ?_) <;> (try (refine o_callB (by first | exact True.intro | (show _ < _; decide)) rfl rfl (hat _) (fun _ _ => ?_))) <;> (try (refine wK ?_; intro _)))) | refine ex_seq ?_ | refine ex_ret ?_ | refine ex_skip ?_ | refine ex_exit ?_ | refine ex_cond_t rfl ?_ | refine ex_cond_f rfl ?_ | refine ex_cond_t (congrArg Value.bool (by assumption)) ?_ | refine ex_cond_f (congrArg Value.bool (by assumption)) ?_ | (refine ex_split rfl ?_ ?_ <;> intro hc))
              repeat' (first | (refine rG 4 [0, 3, 4, 5, 6, 22] ?_; ((try (refine wK ?_; intro _)))) | (refine rG 6 [0, 3, 4, 5, 6, 30] ?_; ((try (refine wK ?_; intro _)))) | (refine rG 8 [0, 3, 4, 5, 6, 36] ?_; ((try (refine wK ?_; intro _)))) | (refine rA 9 [4, 5] 18 ?_; (refine os_but 5 rfl ?_); ((refine lQ 0 ?_; ((refine lQ 1 ?_; ((refine lQ 2 ?_; ((refine lC (v := ?_) 3 ?_ ?_; rotate_left; (focus ((refine o_load_s (v := .pointer (some ⟨bb, 0, none⟩)) (by decide) rfl hboard ?_) <;> exact lL)); ((refine lQ 4 ?_; ((refine lQ 5 ?_; ((refine lQ 6 ?_; ((refine lQ 7 ?_; ((refine lQ 8 ?_; ((refine lQ 9 ?_; ((refine lC (v := ?_) 10 ?_ ?_; rotate_left; (focus ((refine o_call htold (by first | exact True.intro | (show _ < _; decide)) rfl rfl (fun _ _ => ?_)) <;> exact lL)); ((refine lQ 11 ?_; ((refine lQ 12 ?_; ((refine lQ 13 ?_; ((refine lQ 14 ?_; ((refine oN 15 ?_ <;> (refine wO ?_) <;> (refine os_nil ?_) <;> ((refine lQ 16 ?_; ((refine oN 17 ?_ <;> (refine wO ?_) <;> (refine os_nil ?_) <;> ((refine dK ?_; intro _))))))))))))))))))))))))))))))))))))))) | refine wC ?_ | (refine ex_split rfl ?_ ?_ <;> intro hc))
              all_goals
                repeat' (first | (refine rG 16 [4] ?_; ((try (refine wK ?_; intro _)))) | refine wC ?_ | (refine ex_split rfl ?_ ?_ <;> intro hc))
                refine fin (.inr rfl) y0 (resl1 rfl (rv_cell_a rfl rfl)) ⟨Nat.le_refl _, Nat.le_refl _⟩ ?_
                exact Ent.trans (Ent.trans (B := (cl true b (coc s.bu s.ro s.qu s.ticks sa s.sinks.length sc_ L pa s.pots.length pc_ bb) 102 (0, 0) * (rs sa (s.sinks.flatMap sc) * (CEs L * (ow 108 4 pa s.pots.length pc_ (s.pots.flatMap potc) * (cl true bb (bs.map Bd.bcell) 146 (0, 0) * (Bd.bm bs * H))))))) ent_take (ent_co (H := H) oo)) (anm0 _ _))
          · obtain ⟨g, hg⟩ : ∃ g : Nat, fr = (g : Int) := ⟨fr.toNat, by omega⟩
            have hgl : g ≤ (bs[tn.toNat]).2.2.length := by omega
            have ht : toldAt tn fr nn s = (((bs[tn.toNat]).2.2.drop g).take (Bd.tk nn ((bs[tn.toNat]).2.2.length - g)), 0) := by
              unfold toldAt; rw [if_neg (not_not_intro h7), htl]; simp only; rw [if_neg hf, hg, Int.toNat_natCast]
            rw [ht]
            have hbl : (bs[tn.toNat]).2.2.length ≤ 1000000 := by
              have hm : (bs[tn.toNat]).2.2 ∈ s.told := by rw [← oo.told]; exact List.mem_map.2 ⟨bs[tn.toNat], List.getElem_mem htb, rfl⟩
              have := ok.told _ hm
              omega
            have htold := Bd.told bb 1 bs tn.toNat g nn htb hb8 hgl (oo.tc _ htb) hbl rfl
            rw [htn] at htold
            generalize ((bs[tn.toNat]).2.2.drop g).take (Bd.tk nn ((bs[tn.toNat]).2.2.length - g)) = out at *
            subst hg
            generalize lk L tn = v at *
            cases v <;> (
              repeat' (first | (refine rG 2 [0, 3, 4, 5, 6] ?_; ((try refine wO ?_) <;> (try (refine o_callB (by first | exact True.intro | (show _ < _; decide)) rfl rfl (hat _) (fun _ _ => ?_))) <;> (try (refine wK ?_; intro _)))) | refine ex_seq ?_ | refine ex_ret ?_ | refine ex_skip ?_ | refine ex_exit ?_ | refine ex_cond_t rfl ?_ | refine ex_cond_f rfl ?_ | refine ex_cond_t (congrArg Value.bool (by assumption)) ?_ | refine ex_cond_f (congrArg Value.bool (by assumption)) ?_ | (refine ex_split rfl ?_ ?_ <;> intro hc))
              repeat' (first | (refine rG 4 [0, 3, 4, 5, 6, 22] ?_; ((try (refine wK ?_; intro _)))) | (refine rG 6 [0, 3, 4, 5, 6, 30] ?_; ((try (refine wK ?_; intro _)))) | (refine rG 8 [0, 3, 4, 5, 6, 36] ?_; ((try (refine wK ?_; intro _)))) | (refine rA 9 [4, 5] 18 ?_; (refine os_but 5 rfl ?_); ((refine lQ 0 ?_; ((refine lQ 1 ?_; ((refine lQ 2 ?_; ((refine lC (v := ?_) 3 ?_ ?_; rotate_left; (focus ((refine o_load_s (v := .pointer (some ⟨bb, 0, none⟩)) (by decide) rfl hboard ?_) <;> exact lL)); ((refine lQ 4 ?_; ((refine lQ 5 ?_; ((refine lQ 6 ?_; ((refine lQ 7 ?_; ((refine lQ 8 ?_; ((refine lQ 9 ?_; ((refine oN 10 ?_ <;> ((refine o_call htold (by first | exact True.intro | (show _ < _; decide)) rfl rfl (fun y hy => ?_); obtain ⟨ya, yc⟩ := y)) <;> (refine os_nil ?_) <;> ((refine lQ 11 ?_; ((refine lQ 12 ?_; ((refine lQ 13 ?_; ((refine lQ 14 ?_; ((refine oN 15 ?_ <;> (refine wO ?_) <;> (refine os_nil ?_) <;> ((refine lQ 16 ?_; ((refine oN 17 ?_ <;> (refine wO ?_) <;> (refine os_nil ?_) <;> ((refine dK ?_; intro _))))))))))))))))))))))))))))))))))))))) | refine wC ?_ | (refine ex_split rfl ?_ ?_ <;> intro hc))
              all_goals
                repeat' (first | (refine rG 16 [4] ?_; ((try (refine wK ?_; intro _)))) | refine wC ?_ | (refine ex_split rfl ?_ ?_ <;> intro hc))
                refine fin (.inr rfl) ((none, 0), (ya, yc)) (resl1 rfl (rv_cell_a rfl rfl)) ⟨Nat.le_refl _, hy⟩ ?_
                show Ent _ ((ow 67 5 none 0 0 [] * ow 79 4 ya out.length yc (out.flatMap Bd.lc)) * (CO b s * H))
                refine Ent.trans (Ent.ow_none 67 5 _) ?_
                exact Ent.trans (B := ow 67 5 none 0 0 [] * (ow 79 4 ya out.length yc (out.flatMap Bd.lc) * (cl true b (coc s.bu s.ro s.qu s.ticks sa s.sinks.length sc_ L pa s.pots.length pc_ bb) 102 (0, 0) * (rs sa (s.sinks.flatMap sc) * (CEs L * (ow 108 4 pa s.pots.length pc_ (s.pots.flatMap potc) * (cl true bb (bs.map Bd.bcell) 146 (0, 0) * (Bd.bm bs * H)))))))) ent_take (Ent.trans (Ent.frameL (Ent.frameL (ent_co (H := H) oo) _) _) ent_take))
        · have ht : toldAt tn fr nn s = ([], 2) := by unfold toldAt; rw [if_pos h7]
          rw [ht]
          have htold := toldNone bb tn fr nn 1 h7
          generalize lk L tn = v at *
          cases v <;> (
            repeat' (first | (refine rG 2 [0, 3, 4, 5, 6] ?_; ((try refine wO ?_) <;> (try (refine o_callB (by first | exact True.intro | (show _ < _; decide)) rfl rfl (hat _) (fun _ _ => ?_))) <;> (try (refine wK ?_; intro _)))) | refine ex_seq ?_ | refine ex_ret ?_ | refine ex_skip ?_ | refine ex_exit ?_ | refine ex_cond_t rfl ?_ | refine ex_cond_f rfl ?_ | refine ex_cond_t (congrArg Value.bool (by assumption)) ?_ | refine ex_cond_f (congrArg Value.bool (by assumption)) ?_ | (refine ex_split rfl ?_ ?_ <;> intro hc))
            repeat' (first | (refine rG 4 [0, 3, 4, 5, 6, 22] ?_; ((try (refine wK ?_; intro _)))) | (refine rG 6 [0, 3, 4, 5, 6, 30] ?_; ((try (refine wK ?_; intro _)))) | (refine rG 8 [0, 3, 4, 5, 6, 36] ?_; ((try (refine wK ?_; intro _)))) | (refine rA 9 [4, 5] 18 ?_; (refine os_but 5 rfl ?_); ((refine lQ 0 ?_; ((refine lQ 1 ?_; ((refine lQ 2 ?_; ((refine lC (v := ?_) 3 ?_ ?_; rotate_left; (focus ((refine o_load_s (v := .pointer (some ⟨bb, 0, none⟩)) (by decide) rfl hboard ?_) <;> exact lL)); ((refine lQ 4 ?_; ((refine lQ 5 ?_; ((refine lQ 6 ?_; ((refine lQ 7 ?_; ((refine lQ 8 ?_; ((refine lQ 9 ?_; ((refine lC (v := ?_) 10 ?_ ?_; rotate_left; (focus ((refine o_call htold (by first | exact True.intro | (show _ < _; decide)) rfl rfl (fun _ _ => ?_)) <;> exact lL)); ((refine lQ 11 ?_; ((refine lQ 12 ?_; ((refine lQ 13 ?_; ((refine lQ 14 ?_; ((refine oN 15 ?_ <;> (refine wO ?_) <;> (refine os_nil ?_) <;> ((refine lQ 16 ?_; ((refine oN 17 ?_ <;> (refine wO ?_) <;> (refine os_nil ?_) <;> ((refine dK ?_; intro _))))))))))))))))))))))))))))))))))))))) | refine wC ?_ | (refine ex_split rfl ?_ ?_ <;> intro hc))
            all_goals
              repeat' (first | (refine rG 16 [4] ?_; ((try (refine wK ?_; intro _)))) | refine wC ?_ | (refine ex_split rfl ?_ ?_ <;> intro hc))
              refine fin (.inr rfl) y0 (resl1 rfl (rv_cell_a rfl rfl)) ⟨Nat.le_refl _, Nat.le_refl _⟩ ?_
              exact Ent.trans (Ent.trans (B := (cl true b (coc s.bu s.ro s.qu s.ticks sa s.sinks.length sc_ L pa s.pots.length pc_ bb) 102 (0, 0) * (rs sa (s.sinks.flatMap sc) * (CEs L * (ow 108 4 pa s.pots.length pc_ (s.pots.flatMap potc) * (cl true bb (bs.map Bd.bcell) 146 (0, 0) * (Bd.bm bs * H))))))) ent_take (ent_co (H := H) oo)) (anm0 _ _))
      · have hd5 : (kd == 5) = false := by simp [k5]
        by_cases k24 : kd ≠ 2 ∧ kd ≠ 4
        · have hd2 : (kd != 2) = true := by simp [k24.1]
          have hd4 : (kd != 4) = true := by simp [k24.2]
          have he : doS (kd, tn, fr, nn, p, i) s = (s, 1, [], []) := by unfold doS; rw [if_neg k1, if_neg k3, if_neg k5, if_pos k24]
          rw [he]
          generalize lk L tn = v at *
          cases v <;> (
            repeat' (first | (refine rG 2 [0, 3, 4, 5, 6] ?_; ((try refine wO ?_) <;> (try (refine o_callB (by first | exact True.intro | (show _ < _; decide)) rfl rfl (hat _) (fun _ _ => ?_))) <;> (try (refine wK ?_; intro _)))) | refine ex_seq ?_ | refine ex_ret ?_ | refine ex_skip ?_ | refine ex_exit ?_ | refine ex_cond_t rfl ?_ | refine ex_cond_f rfl ?_ | refine ex_cond_t (congrArg Value.bool (by assumption)) ?_ | refine ex_cond_f (congrArg Value.bool (by assumption)) ?_ | (refine ex_split rfl ?_ ?_ <;> intro hc))
            repeat' (first | (refine rG 4 [0, 3, 4, 5, 6, 22] ?_; ((try (refine wK ?_; intro _)))) | (refine rG 6 [0, 3, 4, 5, 6, 30] ?_; ((try (refine wK ?_; intro _)))) | (refine rG 8 [0, 3, 4, 5, 6, 36] ?_; ((try (refine wK ?_; intro _)))) | (refine rG 10 [0, 3, 4, 5, 6, 56] ?_; ((try refine wO ?_) <;> (repeat' (refine g_split rfl (by decide) rfl (by decide) ?_ ?_ <;> intro hc <;> (try refine wO ?_))) <;> (try (refine wK ?_; intro _)))) | (refine rG 11 [4, 5] ?_; ((try (refine wK ?_; intro _)))) | (refine rG 16 [4] ?_; ((try (refine wK ?_; intro _)))) | refine wC ?_ | (refine ex_split rfl ?_ ?_ <;> intro hc))
            refine fin (.inr rfl) y0 (resl1 rfl (rv_cell_a rfl rfl)) ⟨Nat.le_refl _, Nat.le_refl _⟩ ?_
            exact Ent.trans (Ent.trans (B := (cl true b (coc s.bu s.ro s.qu s.ticks sa s.sinks.length sc_ L pa s.pots.length pc_ bb) 102 (0, 0) * (rs sa (s.sinks.flatMap sc) * (CEs L * (ow 108 4 pa s.pots.length pc_ (s.pots.flatMap potc) * (cl true bb (bs.map Bd.bcell) 146 (0, 0) * (Bd.bm bs * H))))))) ent_take (ent_co (H := H) oo)) (anm0 _ _))
        · have hdx : ((kd != 2) = false) ∨ ((kd != 2) = true ∧ (kd != 4) = false) := by
            by_cases h : kd = 2
            · exact .inl (by simp [h])
            · exact .inr ⟨by simp [h], by have : kd = 4 := by omega
                                          simp [this]⟩
          have hdo : doS (kd, tn, fr, nn, p, i) s = (match cellI s tn with
              | none => (s, 2, [], [])
              | some c => if kd = 2 then ({ s with cells := s.cells.set tn.toNat (some (offer s.ro i c).1) }, (offer s.ro i c).2, [], []) else (s, (rowsAt fr nn c).2, (rowsAt fr nn c).1, [])) := by
            unfold doS; rw [if_neg k1, if_neg k3, if_neg k5, if_neg k24]
            show (match cellI s tn with | none => _ | some c => _) = _
            cases cellI s tn <;> rfl
          cases hv : lk L tn with
          | none =>
            rw [hv] at hat hcell
            have hc0 : cellI s tn = none := hcell.symm
            rw [hc0] at hdo
            rw [hdo]
            rcases hdx with hd2 | ⟨hd2, hd4⟩ <;> (
              repeat' (first | (refine rG 2 [0, 3, 4, 5, 6] ?_; ((try refine wO ?_) <;> (try (refine o_callB (by first | exact True.intro | (show _ < _; decide)) rfl rfl (hat _) (fun _ _ => ?_))) <;> (try (refine wK ?_; intro _)))) | refine ex_seq ?_ | refine ex_ret ?_ | refine ex_skip ?_ | refine ex_exit ?_ | refine ex_cond_t rfl ?_ | refine ex_cond_f rfl ?_ | refine ex_cond_t (congrArg Value.bool (by assumption)) ?_ | refine ex_cond_f (congrArg Value.bool (by assumption)) ?_ | (refine ex_split rfl ?_ ?_ <;> intro hc))
              repeat' (first | (refine rG 4 [0, 3, 4, 5, 6, 22] ?_; ((try (refine wK ?_; intro _)))) | (refine rG 6 [0, 3, 4, 5, 6, 30] ?_; ((try (refine wK ?_; intro _)))) | (refine rG 8 [0, 3, 4, 5, 6, 36] ?_; ((try (refine wK ?_; intro _)))) | (refine rG 10 [0, 3, 4, 5, 6, 56] ?_; ((try refine wO ?_) <;> (repeat' (refine g_split rfl (by decide) rfl (by decide) ?_ ?_ <;> intro hc <;> (try refine wO ?_))) <;> (try (refine wK ?_; intro _)))) | (refine rG 12 [0, 3, 4, 5, 6, 66] ?_; ((try (refine wK ?_; intro _)))) | (refine rG 13 [4, 5] ?_; ((try (refine wK ?_; intro _)))) | (refine rG 16 [4] ?_; ((try (refine wK ?_; intro _)))) | refine wC ?_ | (refine ex_split rfl ?_ ?_ <;> intro hc))
              refine fin (.inr rfl) y0 (resl1 rfl (rv_cell_a rfl rfl)) ⟨Nat.le_refl _, Nat.le_refl _⟩ ?_
              exact Ent.trans (Ent.trans (B := (cl true b (coc s.bu s.ro s.qu s.ticks sa s.sinks.length sc_ L pa s.pots.length pc_ bb) 102 (0, 0) * (rs sa (s.sinks.flatMap sc) * (CEs L * (ow 108 4 pa s.pots.length pc_ (s.pots.flatMap potc) * (cl true bb (bs.map Bd.bcell) 146 (0, 0) * (Bd.bm bs * H))))))) ent_take (ent_co (H := H) oo)) (anm0 _ _))
          | some y =>
            obtain ⟨cb, c⟩ := y
            rw [hv] at hat hcell
            have hc1 : cellI s tn = some c := hcell.symm
            obtain ⟨h70, h71, htL, hLt⟩ := lk_some (L := L) oo.l8 hv
            have hct : cell s tn.toNat = some c := by unfold cellI at hc1; rw [if_pos ⟨h70, h71⟩] at hc1; exact hc1
            obtain ⟨ck1, ck2, ck3⟩ := ok.cell _ _ hct
            rw [hc1] at hdo
            by_cases k2 : kd = 2
            · have hd2 : (kd != 2) = false := by simp [k2]
              have hd22 : (kd == 2) = true := by simp [k2]
              have hdo : doS (kd, tn, fr, nn, p, i) s = ({ s with cells := s.cells.set tn.toNat (some (offer s.ro i c).1) }, (offer s.ro i c).2, [], []) := by rw [hdo]; exact if_pos k2
              rw [hdo]
              have hoff := fun (X' H' : HP) (h1 : Take (CE cb c) X' H') => ceOffer cb c s.ro i (t := h1) ck1 (by omega)
              have hsubi : sub (acc oa ocp (kd, tn, fr, nn, p, i)) 10 5 = some (inc i) := rfl
              generalize offer s.ro i c = O at *
              obtain ⟨c2, er⟩ := O
              repeat' (first | (refine rG 2 [0, 3, 4, 5, 6] ?_; ((try refine wO ?_) <;> (try (refine o_callB (by first | exact True.intro | (show _ < _; decide)) rfl rfl (hat _) (fun _ _ => ?_))) <;> (try (refine wK ?_; intro _)))) | refine ex_seq ?_ | refine ex_ret ?_ | refine ex_skip ?_ | refine ex_exit ?_ | refine ex_cond_t rfl ?_ | refine ex_cond_f rfl ?_ | refine ex_cond_t (congrArg Value.bool (by assumption)) ?_ | refine ex_cond_f (congrArg Value.bool (by assumption)) ?_ | (refine ex_split rfl ?_ ?_ <;> intro hc))
              refine Ex.ent ?_ (ent_cell hLt)
              repeat' (first | (refine rG 4 [0, 3, 4, 5, 6, 22] ?_; ((try (refine wK ?_; intro _)))) | (refine rG 6 [0, 3, 4, 5, 6, 30] ?_; ((try (refine wK ?_; intro _)))) | (refine rG 8 [0, 3, 4, 5, 6, 36] ?_; ((try (refine wK ?_; intro _)))) | (refine rG 10 [0, 3, 4, 5, 6, 56] ?_; ((try refine wO ?_) <;> (repeat' (refine g_split rfl (by decide) rfl (by decide) ?_ ?_ <;> intro hc <;> (try refine wO ?_))) <;> (try (refine wK ?_; intro _)))) | (refine rG 12 [0, 3, 4, 5, 6, 66] ?_; ((try (refine wK ?_; intro _)))) | (refine rG 14 [0, 3, 4, 5, 6, 70] ?_; ((try (refine wK ?_; intro _)))) | refine wC ?_ | (refine ex_split rfl ?_ ?_ <;> intro hc))
              repeat' (first | (refine rA 15 [4, 5] 11 ?_; (refine os_butP (cl true b5 [.int .i64 0, .slice none 0 0, .slice none 0 0] 49 (0, 0) * CE cb c) ?_); ((refine lQ 0 ?_; ((refine lQ 1 ?_; ((refine lQ 2 ?_; ((refine lQ 3 ?_; ((refine lQ 4 ?_; ((refine lC (v := ?_) 5 ?_ ?_; rotate_left; (focus ((refine o_load_s (v := .int .i64 s.ro) (by decide) rfl rfl ?_) <;> exact lL)); ((refine lQ 6 ?_; ((refine lC (v := ?_) 7 ?_ ?_; rotate_left; (focus ((refine o_load_a (vs := inc i) (by decide) rfl hsubi ?_) <;> exact lL)); ((refine oN 8 ?_ <;> ((refine o_callH (hoff _ _ inferInstance) (by first | exact True.intro | (show _ < _; decide)) rfl rfl (fun _ _ => ?_))) <;> (refine os_nil ?_) <;> ((refine lQ 9 ?_; ((refine oN 10 ?_ <;> (refine wO ?_) <;> (refine os_nil ?_) <;> ((refine dK ?_; intro _))))))))))))))))))))))))) | refine wC ?_ | (refine ex_split rfl ?_ ?_ <;> intro hc))
              all_goals
                repeat' (first | (refine rG 16 [4] ?_; ((try (refine wK ?_; intro _)))) | refine wC ?_ | (refine ex_split rfl ?_ ?_ <;> intro hc))
                have oo2 := oaOk_set oo tn.toNat (some (cb, c2))
                refine fin (.inr rfl) y0 (resl1 rfl (rv_cell_a rfl rfl)) ⟨Nat.le_refl _, Nat.le_refl _⟩ ?_
                refine Ent.trans (Ent.trans ?_ (ent_co (b := b) (H := H) oo2)) (anm0 _ _)
                show Ent _ (cl true b (coc s.bu s.ro s.qu s.ticks sa s.sinks.length sc_ (L.set tn.toNat (some (cb, c2))) pa s.pots.length pc_ bb) 102 (0, 0) * (rs sa (s.sinks.flatMap sc) * (CEs (L.set tn.toNat (some (cb, c2))) * (ow 108 4 pa s.pots.length pc_ (s.pots.flatMap potc) * (cl true bb (bs.map Bd.bcell) 146 (0, 0) * (Bd.bm bs * H))))))
                rw [coc_same hLt, CEs_set L tn.toNat htL (cb, c2)]
                exact ent_take
            · have hd2 : (kd != 2) = true := by simp [k2]
              have hd22 : (kd == 2) = false := by simp [k2]
              have hd4 : (kd != 4) = false := by
                have : kd = 4 := by omega
                simp [this]
              have hdo : doS (kd, tn, fr, nn, p, i) s = (s, (rowsAt fr nn c).2, (rowsAt fr nn c).1, []) := by rw [hdo]; exact if_neg k2
              rw [hdo]
              have hrow := fun (X' H' : HP) (h1 : Take (CE cb c) X' H') => ceRows cb c fr nn (t := h1) ck1 (by omega)
              generalize rowsAt fr nn c = O at *
              obtain ⟨out, er⟩ := O
              repeat' (first | (refine rG 2 [0, 3, 4, 5, 6] ?_; ((try refine wO ?_) <;> (try (refine o_callB (by first | exact True.intro | (show _ < _; decide)) rfl rfl (hat _) (fun _ _ => ?_))) <;> (try (refine wK ?_; intro _)))) | refine ex_seq ?_ | refine ex_ret ?_ | refine ex_skip ?_ | refine ex_exit ?_ | refine ex_cond_t rfl ?_ | refine ex_cond_f rfl ?_ | refine ex_cond_t (congrArg Value.bool (by assumption)) ?_ | refine ex_cond_f (congrArg Value.bool (by assumption)) ?_ | (refine ex_split rfl ?_ ?_ <;> intro hc))
              refine Ex.ent ?_ (ent_cell hLt)
              repeat' (first | (refine rG 4 [0, 3, 4, 5, 6, 22] ?_; ((try (refine wK ?_; intro _)))) | (refine rG 6 [0, 3, 4, 5, 6, 30] ?_; ((try (refine wK ?_; intro _)))) | (refine rG 8 [0, 3, 4, 5, 6, 36] ?_; ((try (refine wK ?_; intro _)))) | (refine rG 10 [0, 3, 4, 5, 6, 56] ?_; ((try refine wO ?_) <;> (repeat' (refine g_split rfl (by decide) rfl (by decide) ?_ ?_ <;> intro hc <;> (try refine wO ?_))) <;> (try (refine wK ?_; intro _)))) | (refine rG 12 [0, 3, 4, 5, 6, 66] ?_; ((try (refine wK ?_; intro _)))) | (refine rG 14 [0, 3, 4, 5, 6, 70] ?_; ((try (refine wK ?_; intro _)))) | refine wC ?_ | (refine ex_split rfl ?_ ?_ <;> intro hc))
              repeat' (first | (refine rG 3 [4, 5] ?_; ((try refine wO ?_) <;> (try ((refine o_callH (hrow _ _ inferInstance) (by first | exact True.intro | (show _ < _; decide)) rfl rfl (fun y hy => ?_); obtain ⟨ya, yc⟩ := y))) <;> (try (refine wK ?_; intro _)))) | (refine rG 16 [4] ?_; ((try (refine wK ?_; intro _)))) | refine wC ?_ | (refine ex_split rfl ?_ ?_ <;> intro hc))
              refine fin (.inr rfl) ((ya, yc), (none, 0)) (resl1 rfl (rv_cell_a rfl rfl)) ⟨hy, Nat.le_refl _⟩ ?_
              show Ent _ ((ow 67 5 ya out.length yc (out.flatMap rwc) * ow 79 4 none 0 0 []) * (CO b s * H))
              refine Ent.trans (Ent.ow_none 79 4 _) ?_
              refine Ent.trans (B := ow 79 4 none 0 0 [] * (ow 67 5 ya out.length yc (out.flatMap rwc) * (cl true b (coc s.bu s.ro s.qu s.ticks sa s.sinks.length sc_ L pa s.pots.length pc_ bb) 102 (0, 0) * (rs sa (s.sinks.flatMap sc) * (CEs L * (ow 108 4 pa s.pots.length pc_ (s.pots.flatMap potc) * (cl true bb (bs.map Bd.bcell) 146 (0, 0) * (Bd.bm bs * H)))))))) ?_ (Ent.trans (Ent.frameL (Ent.frameL (ent_co (H := H) oo) _) _) ent_take)
              rw [CEs_get L tn.toNat (cb, c) hLt]
              exact ent_take
end Go.Proofs.YtcelailgedndnaaGreatS
namespace Go.Proofs.YtcelailgedndnaaGreatS
open Go.RowKit
set_option linter.unusedVariables false
set_option linter.unusedSimpArgs false
abbrev At : Type := Option Addr × Nat × Ac
def ae (r : At) : List Value := acc r.1 r.2.1 r.2.2
theorem ae_len (r : At) : (ae r).length = 15 := rfl
abbrev Ay : Type := (Option Addr × Nat) × (Option Addr × Nat)
def ancx (x : Ay × An) : List Value := anc x.1 x.2
theorem ancx_len (x : Ay × An) : (ancx x).length = 3 := rfl
theorem ancx_one (x : Ay × An) : ∀ v ∈ ancx x, v.oneCell' = true := by intro v hv; simp [ancx, anc] at hv; rcases hv with rfl | rfl | rfl <;> rfl
def doL : List Ac → Cs → Cs × List An
  | [], s => (s, [])
  | a :: l, s => ((doL l (doS a s).1).1, (doS a s).2 :: (doL l (doS a s).1).2)
theorem doL_snoc (l : List Ac) (a : Ac) (s : Cs) : doL (l ++ [a]) s = ((doS a (doL l s).1).1, (doL l s).2 ++ [(doS a (doL l s).1).2]) := by
  induction l generalizing s with
  | nil => rfl
  | cons b l ih =>
    show ((doL (l ++ [a]) (doS b s).1).1, (doS b s).2 :: (doL (l ++ [a]) (doS b s).1).2) = _
    rw [ih]; rfl
theorem doL_len (l : List Ac) (s : Cs) : (doL l s).2.length = l.length := by
  induction l generalizing s with
  | nil => rfl
  | cons b l ih => show (_ :: _).length = _; rw [List.length_cons, ih, List.length_cons]
theorem newCd_ok (id most : Int) (p : Pp) (hp : pir p = true) (h0 : 0 ≤ id) (h8 : id < 8) (hm : most ≤ 4000) : CdOk (newCd id most p) 0 := by
  have := pir_len hp
  refine ⟨by show p.1.length ≤ 100; omega, by show (([] : Pm).map (·.1)).Nodup; simp, Nat.le_refl _, Nat.le_refl _, ?_, ?_, h0, h8⟩
  · show 0 ≤ (if (0 : Int) > most then 0 else most); split <;> omega
  · show (if (0 : Int) > most then 0 else most) ≤ 4000; split <;> omega
theorem offer_ok {c : Cd} {n : Nat} (h : CdOk c n) (room : Int) (i : In) : CdOk (offer room i c).1 (n + 1) ∧ (offer room i c).1.run = c.run ∧ (offer room i c).1.id = c.id := by
  have hr : CdOk (refuse c) (n + 1) := { h.mono (Nat.le_succ n) with }
  unfold offer
  split
  · exact ⟨hr, rfl, rfl⟩
  · split
    · exact ⟨hr, rfl, rfl⟩
    · split
      · exact ⟨hr, rfl, rfl⟩
      · rename_i h2 h3
        refine ⟨{ h with ins := ?_, l0 := ?_, l1 := ?_ }, rfl, rfl⟩
        · show c.taken.length + (c.q ++ [_]).length ≤ n + 1
          rw [List.length_append]; have := h.ins; simp; omega
        · show 0 ≤ c.left - 1; have := h.l0; omega
        · show c.left - 1 ≤ 4000; have := h.l1; omega
theorem cells_set_ok {s : Cs} {n m : Nat} (h : CsOk s n) (hm : n ≤ m) {t : Nat} {c : Cd} (hc : CdOk c m) (hp : mayP (t : Int) c.run.pp s.sinks = true) (hid : c.id = (t : Int)) (ht : t < 8) : CsOk { s with cells := s.cells.set t (some c) } m := by
  have h1 := h.mono hm
  refine { h1 with c8 := ?_, cell := ?_ }
  · show (s.cells.set t _).length = 8; rw [List.length_set]; exact h.c8
  · intro u d hd
    have := cell_set (s := s) (t := t) (x := some c) (P := s.pots) (by rw [h.c8]; exact ht) u
    rw [this] at hd
    by_cases hu : u = t
    · subst hu; rw [if_pos rfl] at hd
      have : d = c := (Option.some.inj hd).symm
      subst this; exact ⟨hc, hp, hid⟩
    · rw [if_neg hu] at hd; exact h1.cell u d hd
theorem doS_ok {s : Cs} {n : Nat} (h : CsOk s n) (hn : n ≤ 10000) (hq : s.qu ≤ 4000) (a : Ac) : CsOk (doS a s).1 (n + 5) := by
  have hm := h.mono (show n ≤ n + 5 by omega)
  obtain ⟨kd, tn, fr, nn, p, i⟩ := a
  unfold doS
  split
  · show CsOk (register tn p s).1 (n + 5)
    unfold register
    split
    · exact hm
    · rename_i h7
      have h7 : 0 ≤ tn ∧ tn ≤ 7 := Decidable.not_not.1 h7
      split
      · exact hm
      · split
        · exact hm
        · rename_i hmay
          have hmay : mayP tn p s.sinks = true := by simpa using hmay
          obtain ⟨a1, a2, a3⟩ := mayP_pir hmay
          exact cells_set_ok h (by omega) ((newCd_ok tn s.qu p a1 a2 a3 hq).mono (Nat.zero_le _)) (by rw [show ((tn.toNat : Nat) : Int) = tn by omega]; exact hmay) (show tn = ((tn.toNat : Nat) : Int) by omega) (by omega)
  · split
    · exact tickS_ok h hn
    · split
      · exact hm
      · split
        · exact hm
        · split
          · exact hm
          · rename_i c hc
            split
            · have hc : cellI s tn = some c := hc
              unfold cellI at hc
              split at hc
              · rename_i h7
                obtain ⟨b1, b2, b3⟩ := h.cell _ _ hc
                obtain ⟨o1, o2, o3⟩ := offer_ok b1 s.ro i
                exact cells_set_ok h (by omega) (o1.mono (by omega)) (by show mayP _ (offer s.ro i c).1.run.pp _ = true; rw [o2]; exact b2) (by show (offer s.ro i c).1.id = _; rw [o3]; exact b3) (by show tn.toNat < 8; omega)
              · cases hc
            · exact hm
theorem tickN_same (s : Cs) (n : Nat) (h : CsOk s n) : ∀ i, (tickN s i).bu = s.bu ∧ (tickN s i).ro = s.ro ∧ (tickN s i).qu = s.qu ∧ (tickN s i).sinks = s.sinks
  | 0 => by
    obtain ⟨_, e1, e2, e3, e4, e5, _⟩ := serveAll_ok h
    exact ⟨e3, e4, e5, e1⟩
  | i + 1 => by
    rw [tickN_succ]
    obtain ⟨a1, a2, a3, a4⟩ := tickN_same s n h i
    obtain ⟨b1, b2, b3, b4, b5⟩ := tick1_same i (tickN s i)
    exact ⟨b2.trans a1, b3.trans a2, b4.trans a3, b1.trans a4⟩
theorem doS_same {s : Cs} {n : Nat} (h : CsOk s n) (a : Ac) : (doS a s).1.bu = s.bu ∧ (doS a s).1.ro = s.ro ∧ (doS a s).1.qu = s.qu ∧ (doS a s).1.sinks = s.sinks := by
  obtain ⟨kd, tn, fr, nn, p, i⟩ := a
  unfold doS
  split
  · show (register tn p s).1.bu = _ ∧ (register tn p s).1.ro = _ ∧ (register tn p s).1.qu = _ ∧ (register tn p s).1.sinks = _
    unfold register
    split
    · exact ⟨rfl, rfl, rfl, rfl⟩
    · split
      · exact ⟨rfl, rfl, rfl, rfl⟩
      · split <;> exact ⟨rfl, rfl, rfl, rfl⟩
  · split
    · exact tickN_same s n h _
    · split
      · exact ⟨rfl, rfl, rfl, rfl⟩
      · split
        · exact ⟨rfl, rfl, rfl, rfl⟩
        · split
          · exact ⟨rfl, rfl, rfl, rfl⟩
          · split <;> exact ⟨rfl, rfl, rfl, rfl⟩
theorem doL_ok {s : Cs} {n : Nat} (h : CsOk s n) (hq : s.qu ≤ 4000) : ∀ (l : List Ac), n + 5 * l.length ≤ 9000 → CsOk (doL l s).1 (n + 5 * l.length) ∧ (doL l s).1.qu = s.qu ∧ (doL l s).1.sinks = s.sinks ∧ (doL l s).1.bu = s.bu ∧ (doL l s).1.ro = s.ro := by
  intro l
  refine snoc_ind (P := fun l => n + 5 * l.length ≤ 9000 → CsOk (doL l s).1 (n + 5 * l.length) ∧ (doL l s).1.qu = s.qu ∧ (doL l s).1.sinks = s.sinks ∧ (doL l s).1.bu = s.bu ∧ (doL l s).1.ro = s.ro) (fun _ => ⟨h, rfl, rfl, rfl, rfl⟩) (fun l a ih hl => ?_) l
  rw [List.length_append, List.length_singleton] at hl ⊢
  obtain ⟨i1, i2, i3, i4, i5⟩ := ih (by omega)
  rw [doL_snoc]
  obtain ⟨e1, e2, e3, e4⟩ := doS_same i1 a
  exact ⟨(doS_ok i1 (by omega) (by rw [i2]; exact hq) a).mono (by omega), e3.trans i2, e4.trans i3, e1.trans i4, e2.trans i5⟩
set_option linter.unusedVariables false
set_option linter.unusedSimpArgs false
attribute [local irreducible] Ops Ex Spec T V QO OA Rn OS
def anms : List (Ay × An) → HP
  | [] => 1
  | x :: l => anm x.1 x.2 * anms l
theorem anms_snoc : ∀ (l : List (Ay × An)) (x : Ay × An), anms (l ++ [x]) = anms l * anm x.1 x.2
  | [], x => by show anm x.1 x.2 * 1 = 1 * anm x.1 x.2; rw [sep_one, one_sep]
  | y :: l, x => by
    show anm y.1 y.2 * anms (l ++ [x]) = anm y.1 y.2 * anms l * anm x.1 x.2
    rw [anms_snoc l x, sep_assoc]
set_option maxHeartbeats 16000000 in
theorem coDoN {X H : HP} (b : Nat) (s : Cs) (aa : Option Addr) (l : List At) (ac : Nat) [t : Take (CO b s) X H] [hr : RdC H aa (l.flatMap ae)] (hrd : ∀ r ∈ l, RdC H r.1 (r.2.2.2.2.2.2.1.1.flatMap oc)) (hops : ∀ r ∈ l, r.2.2.2.2.2.2.1.1.length ≤ 1000000) {n : Nat} (ok : CsOk s n) (hq : s.qu ≤ 4000) (hn : n + 5 * l.length ≤ 8900) :
    Spec Tryz.prog 12 [.pointer (some ⟨b, 0, none⟩), .slice aa l.length ac] X (X := Option Addr × Nat × List (Ay × An)) (fun y => .slice y.1 y.2.2.length y.2.1) (fun y => y.2.2.map (·.2) = (doL (l.map (·.2.2)) s).2 ∧ y.2.2.length ≤ y.2.1)
      (fun y => ow 49 3 y.1 y.2.2.length y.2.1 (y.2.2.flatMap ancx) * (anms y.2.2 * (CO b (doL (l.map (·.2.2)) s).1 * H))) := by
  rw [t.eq]
  refine spec_of Tryz.func12 rfl Tryz.ntmps12 rfl ?_
  repeat' (first | (refine rG 0 [0, 1] ?_; ((try (refine wK ?_; intro _)))) | (refine rG 1 [0, 1, 5] ?_; ((try (refine wK ?_; intro _)))) | (refine rG 2 [0, 5, 8, 9, 10] ?_; ((try (refine wK ?_; intro _)))) | refine wC ?_ | (refine ex_split rfl ?_ ?_ <;> intro hc))
  refine Ex.ent ?_ (Ent.ow_none 49 3 _)
  refine ex_loopE (fun mm e H' => ∃ g, ∃ i : Nat, ∃ A : List (Ay × An), ∃ ra, ∃ rc : Nat, e = put (put (put (put (put g 0 (.pointer (some ⟨b, 0, none⟩))) 5 (.slice ra A.length rc)) 8 (.slice aa l.length ac)) 9 (.int .i64 (l.length : Int))) 10 (.int .i64 (i : Int)) ∧
    H' = ow 49 3 ra A.length rc (A.flatMap ancx) * (anms A * (CO b (doL ((l.take i).map (·.2.2)) s).1 * H)) ∧ A.map (·.2) = (doL ((l.take i).map (·.2.2)) s).2 ∧ i ≤ l.length ∧ A.length ≤ rc ∧ mm = l.length - i) (m := l.length) ⟨_, 0, [], none, 0, rfl, rfl, rfl, by omega, by simp, by omega⟩ ?_ ?_
  · show Ent _ (ow 49 3 none 0 0 [] * (1 * (CO b s * H)))
    exact ent_take
  · rintro mm e H' ⟨g, i, A, ra, rc, rfl, rfl, hA, hi, hrc, rfl⟩
    by_cases hlt : i < l.length
    · have hd : decide ((i : Int) < (l.length : Int)) = true := by simp; omega
      have h0 : 0 ≤ (i : Int) := by omega
      have h1 : (i : Int) < (l.length : Int) := by omega
      have ei : IntKind.i64.wrap ((i : Int) + 1) = ((i + 1 : Nat) : Int) := by rw [IntKind.wrap_i64]; omega
      refine Ex.rd_some (a := aa) (l := l.flatMap ae) (by rw [flat_len ae_len]; omega) (fun ad ha => ?_)
      subst ha
      have hv : sub (l.flatMap ae) ((i : Int).toNat * 15) 15 = some (ae l[i]) := by rw [Int.toNat_natCast]; exact sub_flat ae_len l i hlt
      have hmem := List.getElem_mem hlt
      have hro := hrd _ hmem
      have hol := hops _ hmem
      have hAl : A.length = i := by
        have h2 := congrArg List.length hA
        rw [List.length_map, doL_len, List.length_map, List.length_take] at h2; omega
      have hsn : doL ((l.take (i + 1)).map (·.2.2)) s = ((doS (l[i]).2.2 (doL ((l.take i).map (·.2.2)) s).1).1, (doL ((l.take i).map (·.2.2)) s).2 ++ [(doS (l[i]).2.2 (doL ((l.take i).map (·.2.2)) s).1).2]) := by
        rw [List.take_succ_eq_append_getElem hlt, List.map_append]; exact doL_snoc _ _ _
      obtain ⟨okx, hqx, _, _, _⟩ := doL_ok ok hq ((l.take i).map (·.2.2)) (by rw [List.length_map, List.length_take]; omega)
      rw [List.length_map, List.length_take] at okx
      rw [← hA] at hsn
      generalize (doL ((l.take i).map (·.2.2)) s).1 = x at *
      generalize l[i] = r at *
      obtain ⟨oa, ocp, a⟩ := r
      have hdo := fun (X' H' : HP) (h1 : Take (CO b x) X' H') (h2 : RdC H' oa (a.2.2.2.2.1.1.flatMap oc)) => coDo b x a oa ocp (t := h1) (hr := h2) hol okx (by omega)
      have hsub : sub (ae (oa, ocp, a)) 0 15 = some (acc oa ocp a) := rfl
      repeat' (first | (refine rG 3 [0, 5, 8, 9, 10, 11] ?_; ((try (refine wK ?_; intro _)))) | (refine ex_regk (id := 4) (ts := [0, 5, 7, 8, 9, 10]) ?_; ((try (refine o_index (by decide) rfl rfl (by first | decide | assumption | omega) (by first | decide | assumption | omega) ?_)) <;> (try (refine o_load_ra (vs := ae (oa, ocp, a)) (by decide) rfl hv ?_)) <;> (try ((refine o_alloc_a (by decide) (fun b7 => ?_)))) <;> (try (first | refine o_store_a rfl rfl rfl rfl rfl ?_ | refine o_store_oa rfl rfl rfl (Nat.succ_pos _) rfl (by assumption) ?_)) <;> (try (refine ops_nilk ?_; intro _)) <;> (try ((first | refine keep_cons (v := .pointer _) rfl ?_ | refine keep_cons (v := _) rfl ?_) <;> (first | refine keep_cons (v := .slice _ _ _) rfl ?_ | refine keep_cons (v := _) rfl ?_) <;> (first | refine keep_cons (v := .pointer _) rfl ?_ | refine keep_cons (v := _) rfl ?_) <;> (first | refine keep_cons (v := .slice _ _ _) rfl ?_ | refine keep_cons (v := _) rfl ?_) <;> (first | refine keep_cons (v := .int _ _) rfl ?_ | refine keep_cons (v := _) rfl ?_) <;> (first | refine keep_cons (v := .int _ _) rfl ?_ | refine keep_cons (v := _) rfl ?_))) <;> (try refine keep_nil ?_))) | refine wC ?_ | (refine ex_split rfl ?_ ?_ <;> intro hc))
      refine Ex.ent ?_ (ent_clL (b := b7) (l' := ae (oa, ocp, a)) rfl)
      repeat' (first | (refine ex_regk (id := 5) (ts := [0, 5, 8, 9, 10]) ?_; ((try (first | refine o_mv (v := .slice _ _ _) (by decide) rfl ?_ | refine o_mv (by decide) rfl ?_)) <;> (try (first | refine o_mv (v := .pointer _) (by decide) rfl ?_ | refine o_mv (by decide) rfl ?_)) <;> (try (refine o_load_a (vs := acc oa ocp a) (by decide) rfl hsub ?_)) <;> (try ((refine o_callH (hdo _ _ inferInstance inferInstance) (by first | exact True.intro | (show _ < _; decide)) rfl rfl (fun y hy => ?_)))) <;> (try ((refine o_buildSlice (by decide) rfl rfl rfl (fun _ => ?_)))) <;> (try (refine o_appendT (cells := ancx) (xs := A) (ys := [(y, (doS a x).2)]) ancx_len ancx_one (by decide) rfl rfl rfl rfl rfl (by simp only [List.length_cons, List.length_nil]; omega) (by simp only [maxLen, List.length_cons, List.length_nil]; omega) (fun a' cap' hc' => ?_))) <;> (try (first | refine o_as (v := .slice _ _ _) (by decide) rfl ?_ | refine o_as (by decide) rfl ?_)) <;> (try (refine ops_nilk ?_; intro _)) <;> (try ((first | refine keep_cons (v := .pointer _) rfl ?_ | refine keep_cons (v := _) rfl ?_) <;> (first | refine keep_cons (v := .slice _ _ _) rfl ?_ | refine keep_cons (v := _) rfl ?_) <;> (first | refine keep_cons (v := .slice _ _ _) rfl ?_ | refine keep_cons (v := _) rfl ?_) <;> (first | refine keep_cons (v := .int _ _) rfl ?_ | refine keep_cons (v := _) rfl ?_) <;> (first | refine keep_cons (v := .int _ _) rfl ?_ | refine keep_cons (v := _) rfl ?_))) <;> (try refine keep_nil ?_))) | refine wC ?_ | (refine ex_split rfl ?_ ?_ <;> intro hc))
      repeat' (first | (refine rG 6 [0, 5, 8, 9, 10] ?_; ((try (refine wK ?_; intro _)))) | refine wC ?_ | (refine ex_split rfl ?_ ?_ <;> intro hc))
      rw [ei]
      refine ⟨l.length - (i + 1), by omega, _, ?_, _, i + 1, A ++ [(y, (doS a x).2)], a', cap', rfl, rfl, ?_, by omega, hc', rfl⟩
      · rw [hsn, anms_snoc]; exact ent_take
      · rw [hsn, List.map_append]; rfl
    · have hil : i = l.length := by omega
      subst hil
      have hd : decide ((l.length : Int) < (l.length : Int)) = false := by simp
      rw [List.take_length] at hA
      rw [List.take_length]
      repeat' (first | (refine rG 3 [0, 5, 8, 9, 10, 11] ?_; ((try (refine wK ?_; intro _)))) | (refine rG 7 [4] ?_; ((try (refine wK ?_; intro _)))) | refine wC ?_ | (refine ex_split rfl ?_ ?_ <;> intro hc))
      exact fin (.inr rfl) (ra, rc, A) (resl1 rfl (rv_tmp rfl)) ⟨hA, hrc⟩ (Ent.refl _)
end Go.Proofs.YtcelailgedndnaaGreatS
namespace Go.Proofs.YtcelailgedndnaaGreatS
open Go.RowKit
set_option linter.unusedVariables false
set_option linter.unusedSimpArgs false
theorem pv_one (x : Option (Nat × Cd)) : (pv x).oneCell' = true := by cases x <;> rfl
theorem coc_len {bu ro qu ti : Int} {sa : Option Addr} {ns sc_ : Nat} {L : Cl} {pa : Option Addr} {np pc_ bb : Nat} (h : L.length = 8) : (coc bu ro qu ti sa ns sc_ L pa np pc_ bb).length = 15 := by unfold coc; simp [h]
theorem coc_all {bu ro qu ti : Int} {sa : Option Addr} {ns sc_ : Nat} {L : Cl} {pa : Option Addr} {np pc_ bb : Nat} : (coc bu ro qu ti sa ns sc_ L pa np pc_ bb).all (·.oneCell') = true := by
  unfold coc
  rw [List.all_append, List.all_append, List.all_map]
  have : L.all ((fun v => v.oneCell') ∘ pv) = true := by
    rw [List.all_eq_true]; intro x _; exact pv_one x
  rw [this]; rfl
set_option linter.unusedVariables false
set_option linter.unusedSimpArgs false
attribute [local irreducible] Ops Ex Spec T V QO OA Rn OS
theorem CEs_append : ∀ (A B : Cl), CEs (A ++ B) = CEs A * CEs B
  | [], B => (one_sep _).symm
  | none :: A, B => CEs_append A B
  | some y :: A, B => by
    show CE y.1 y.2 * CEs (A ++ B) = CE y.1 y.2 * CEs A * CEs B
    rw [CEs_append A B, sep_assoc]
theorem rd_bm {bs : List Bd.Br} {i : Nat} (h : i < bs.length) : RdC (Bd.bm bs) (bs[i]).1 ((bs[i]).2.2.flatMap Bd.lc) := ⟨by
  rw [Bd.bm_get bs i h]
  exact (rd_ow _ _ _ _ _ _).left _⟩
set_option maxHeartbeats 16000000 in
theorem coDo1 {X H : HP} (b : Nat) (s : Cs) (aa : Option Addr) (oa : Option Addr) (ocp : Nat) (a : Ac) (ac : Nat) [t : Take (CO b s) X H] [hr : RdC H aa (acc oa ocp a)] [hro : RdC H oa (a.2.2.2.2.1.1.flatMap oc)] (hl : a.2.2.2.2.1.1.length ≤ 1000000) {n : Nat} (ok : CsOk s n) (hn : n ≤ 9000) :
    Spec Tryz.prog 12 [.pointer (some ⟨b, 0, none⟩), .slice aa 1 ac] X (X := Option Addr × Nat × Ay) (fun y => .slice y.1 1 y.2.1) (fun y => 1 ≤ y.2.1 ∧ (doS a s).2.2.1.length ≤ y.2.2.1.2 ∧ (doS a s).2.2.2.length ≤ y.2.2.2.2)
      (fun y => ow 49 3 y.1 1 y.2.1 (anc y.2.2 (doS a s).2) * (anm y.2.2 (doS a s).2 * (CO b (doS a s).1 * H))) := by
  rw [t.eq]
  have hdo := fun (X' H' : HP) (h1 : Take (CO b s) X' H') (h2 : RdC H' oa (a.2.2.2.2.1.1.flatMap oc)) => coDo b s a oa ocp (t := h1) (hr := h2) hl ok hn
  have e1 : IntKind.i64.wrap (0 + 1) = 1 := rfl
  have d0 : decide ((0 : Int) < 1) = true := rfl
  have d1 : decide ((1 : Int) < 1) = false := rfl
  have hv : sub (acc oa ocp a) ((0 : Int).toNat * 15) 15 = some (acc oa ocp a) := rfl
  have hsub : sub (acc oa ocp a) 0 15 = some (acc oa ocp a) := rfl
  refine spec_of Tryz.func12 rfl Tryz.ntmps12 rfl ?_
  refine Ex.rd_some (a := aa) (l := acc oa ocp a) (by rw [acc_len]; omega) (fun ad ha => ?_)
  subst ha
  repeat' (first | (refine rG 0 [0, 1] ?_; ((try (refine wK ?_; intro _)))) | (refine rG 1 [0, 1, 5] ?_; ((try (refine wK ?_; intro _)))) | (refine rG 2 [0, 5, 8, 9, 10] ?_; ((try (refine wK ?_; intro _)))) | refine wC ?_ | (refine ex_split rfl ?_ ?_ <;> intro hc))
  refine Ex.ent ?_ (Ent.ow_none 49 3 _)
  refine ex_rounds 2 ?_
  refine rn_succ ?_
  repeat' (first | (refine rG 3 [0, 5, 8, 9, 10, 11] ?_; ((try (refine wK ?_; intro _)))) | (refine ex_regk (id := 4) (ts := [0, 5, 7, 8, 9, 10]) ?_; ((try (refine o_index (by decide) rfl rfl (by first | decide | assumption | omega) (by first | decide | assumption | omega) ?_)) <;> (try (refine o_load_ra (vs := acc oa ocp a) (by decide) rfl hv ?_)) <;> (try ((refine o_alloc_a (by decide) (fun b7 => ?_)))) <;> (try (first | refine o_store_a rfl rfl rfl rfl rfl ?_ | refine o_store_oa rfl rfl rfl (Nat.succ_pos _) rfl (by assumption) ?_)) <;> (try (refine ops_nilk ?_; intro _)) <;> (try ((first | refine keep_cons (v := .pointer _) rfl ?_ | refine keep_cons (v := _) rfl ?_) <;> (first | refine keep_cons (v := .slice _ _ _) rfl ?_ | refine keep_cons (v := _) rfl ?_) <;> (first | refine keep_cons (v := .pointer _) rfl ?_ | refine keep_cons (v := _) rfl ?_) <;> (first | refine keep_cons (v := .slice _ _ _) rfl ?_ | refine keep_cons (v := _) rfl ?_) <;> (first | refine keep_cons (v := .int _ _) rfl ?_ | refine keep_cons (v := _) rfl ?_) <;> (first | refine keep_cons (v := .int _ _) rfl ?_ | refine keep_cons (v := _) rfl ?_))) <;> (try refine keep_nil ?_))) | refine wC ?_ | (refine ex_split rfl ?_ ?_ <;> intro hc))
  refine Ex.ent ?_ (ent_clL (b := b7) (l' := acc oa ocp a) rfl)
  repeat' (first | (refine ex_regk (id := 5) (ts := [0, 5, 8, 9, 10]) ?_; ((try (first | refine o_mv (v := .slice _ _ _) (by decide) rfl ?_ | refine o_mv (by decide) rfl ?_)) <;> (try (first | refine o_mv (v := .pointer _) (by decide) rfl ?_ | refine o_mv (by decide) rfl ?_)) <;> (try (refine o_load_a (vs := acc oa ocp a) (by decide) rfl hsub ?_)) <;> (try ((refine o_callH (hdo _ _ inferInstance inferInstance) (by first | exact True.intro | (show _ < _; decide)) rfl rfl (fun y hy => ?_)))) <;> (try ((refine o_buildSlice (by decide) rfl rfl rfl (fun _ => ?_)))) <;> (try (refine o_appendT (cells := ancx) (xs := []) (ys := [(y, (doS a s).2)]) ancx_len ancx_one (by decide) rfl rfl rfl rfl rfl (by simp only [List.length_cons, List.length_nil]; omega) (by simp only [maxLen, List.length_cons, List.length_nil]; omega) (fun a' cap' hc' => ?_))) <;> (try (first | refine o_as (v := .slice _ _ _) (by decide) rfl ?_ | refine o_as (by decide) rfl ?_)) <;> (try (refine ops_nilk ?_; intro _)) <;> (try ((first | refine keep_cons (v := .pointer _) rfl ?_ | refine keep_cons (v := _) rfl ?_) <;> (first | refine keep_cons (v := .slice _ _ _) rfl ?_ | refine keep_cons (v := _) rfl ?_) <;> (first | refine keep_cons (v := .slice _ _ _) rfl ?_ | refine keep_cons (v := _) rfl ?_) <;> (first | refine keep_cons (v := .int _ _) rfl ?_ | refine keep_cons (v := _) rfl ?_) <;> (first | refine keep_cons (v := .int _ _) rfl ?_ | refine keep_cons (v := _) rfl ?_))) <;> (try refine keep_nil ?_))) | refine wC ?_ | (refine ex_split rfl ?_ ?_ <;> intro hc))
  repeat' (first | (refine rG 6 [0, 5, 8, 9, 10] ?_; ((try (refine wK ?_; intro _)))) | refine wC ?_ | (refine ex_split rfl ?_ ?_ <;> intro hc))
  rw [e1]
  refine rn_succ ?_
  repeat' (first | (refine rG 3 [0, 5, 8, 9, 10, 11] ?_; ((try (refine wK ?_; intro _)))) | (refine rG 7 [4] ?_; ((try (refine wK ?_; intro _)))) | refine wC ?_ | (refine ex_split rfl ?_ ?_ <;> intro hc))
  refine fin (.inr rfl) (a', cap', y) (resl1 rfl (rv_tmp rfl)) ⟨hc', hy⟩ ?_
  refine Ent.trans (show Ent _ (ow 49 3 a' 1 cap' (anc y (doS a s).2) * _) from Ent.refl _) ?_
  exact ent_take
theorem coTicks {X H : HP} (b : Nat) (s : Cs) [t : Take (CO b s) X H] :
    Spec Tryz.prog 58 [.pointer (some ⟨b, 0, none⟩)] X (X := Unit) (fun _ => .int .i64 s.ticks) (fun _ => True) (fun _ => X) := by
  rw [t.eq]
  refine co_open fun sa sc_ L pa pc_ bb bs oo => ?_
  rw [COr_flat]
  have hticks : (coc s.bu s.ro s.qu s.ticks sa s.sinks.length sc_ L pa s.pots.length pc_ bb)[0 + 14]? = some (.int .i64 s.ticks) := by
    obtain ⟨x0, x1, x2, x3, x4, x5, x6, x7, rfl⟩ := list8 (show L.length = 8 from oo.l8)
    rfl
  refine spec_of Tryz.func58 rfl Tryz.ntmps58 rfl ?_
  repeat' (first | (refine rG 0 [0] ?_; ((try (refine wK ?_; intro _)))) | (refine ex_regk (id := 1) (ts := [2]) ?_; ((try (first | refine o_mv (v := .pointer _) (by decide) rfl ?_ | refine o_mv (by decide) rfl ?_)) <;> (try (first | refine o_nil (by decide) rfl ?_ | refine o_nil_func (by decide) rfl ?_)) <;> (try (refine o_fieldAddr' (by decide) rfl ?_)) <;> (try (refine o_load_s (v := .int .i64 s.ticks) (by decide) rfl hticks ?_)) <;> (try (first | refine o_as (v := .int _ _) (by decide) rfl ?_ | refine o_as (by decide) rfl ?_)) <;> (try (refine ops_nilk ?_; intro _)) <;> (try ((first | refine keep_cons (v := .int _ _) rfl ?_ | refine keep_cons (v := _) rfl ?_))) <;> (try refine keep_nil ?_))) | refine wC ?_ | (refine ex_split rfl ?_ ?_ <;> intro hc))
  refine fin (.inr rfl) () (resl1 rfl (rv_tmp rfl)) trivial ?_
  exact Ent.trans ent_take (ent_co (b := b) (H := H) oo)
theorem coCellN {X H : HP} (b : Nat) (s : Cs) (tn : Int) [t : Take (CO b s) X H] (hc : cellI s tn = none) :
    Spec Tryz.prog 14 [.pointer (some ⟨b, 0, none⟩), .int .i64 tn] X (X := Unit) (fun _ => .pointer none) (fun _ => True) (fun _ => X) := by
  rw [t.eq]
  refine co_open fun sa sc_ L pa pc_ bb bs oo => ?_
  rw [COr_flat]
  have hat := fun ty => coAt b s.bu s.ro s.qu s.ticks sa s.sinks.length sc_ L pa s.pots.length pc_ bb tn ty oo.l8 rfl
  have hcell := lk_cell oo.cells tn
  have hv : lk L tn = none := by
    rw [hc] at hcell
    cases h : lk L tn with
    | none => rfl
    | some y => rw [h] at hcell; cases hcell
  rw [hv] at hat
  refine spec_of Tryz.func14 rfl Tryz.ntmps14 rfl ?_
  repeat' (first | (refine rG 0 [0, 1] ?_; ((try (refine wK ?_; intro _)))) | (refine rG 1 [5] ?_; ((try refine wO ?_) <;> (try (refine o_callB (by first | exact True.intro | (show _ < _; decide)) rfl rfl (hat _) (fun _ _ => ?_))) <;> (try (refine wK ?_; intro _)))) | (refine rG 2 [5, 10] ?_; ((try (refine wK ?_; intro _)))) | (refine rG 3 [4] ?_; ((try (refine wK ?_; intro _)))) | refine wC ?_ | (refine ex_split rfl ?_ ?_ <;> intro hc))
  refine fin (.inr rfl) () (resl1 rfl (rv_tmp rfl)) trivial ?_
  exact Ent.trans ent_take (ent_co (b := b) (H := H) oo)
theorem coCellS {X H : HP} (b : Nat) (s : Cs) (tn : Int) {c : Cd} [t : Take (CO b s) X H] {n : Nat} (ok : CsOk s n) (hn : n ≤ 10000) (hc : cellI s tn = some c) :
    Spec Tryz.prog 14 [.pointer (some ⟨b, 0, none⟩), .int .i64 tn] X (X := Nat) (fun y => .pointer (some ⟨y, 0, none⟩)) (fun _ => True) (fun y => CE y c * X) := by
  rw [t.eq]
  refine co_open fun sa sc_ L pa pc_ bb bs oo => ?_
  rw [COr_flat]
  have hat := fun ty => coAt b s.bu s.ro s.qu s.ticks sa s.sinks.length sc_ L pa s.pots.length pc_ bb tn ty oo.l8 rfl
  have hcell := lk_cell oo.cells tn
  obtain ⟨cb, hv⟩ : ∃ cb, lk L tn = some (cb, c) := by
    rw [hc] at hcell
    cases h : lk L tn with
    | none => rw [h] at hcell; cases hcell
    | some y => rw [h] at hcell; obtain ⟨cb, c'⟩ := y; have : c' = c := Option.some.inj hcell; subst this; exact ⟨cb, rfl⟩
  rw [hv] at hat
  obtain ⟨h70, h71, htL, hLt⟩ := lk_some (L := L) oo.l8 hv
  have hct : cell s tn.toNat = some c := by unfold cellI at hc; rw [if_pos ⟨h70, h71⟩] at hc; exact hc
  obtain ⟨ck1, _, _⟩ := ok.cell _ _ hct
  have htw := fun (X' H' : HP) (h1 : Take (CE cb c) X' H') => ceTwin cb c (t := h1) ck1 hn
  refine spec_of Tryz.func14 rfl Tryz.ntmps14 rfl ?_
  repeat' (first | (refine rG 0 [0, 1] ?_; ((try (refine wK ?_; intro _)))) | (refine rG 1 [5] ?_; ((try refine wO ?_) <;> (try (refine o_callB (by first | exact True.intro | (show _ < _; decide)) rfl rfl (hat _) (fun _ _ => ?_))) <;> (try (refine wK ?_; intro _)))) | refine wC ?_ | (refine ex_split rfl ?_ ?_ <;> intro hc))
  refine Ex.ent ?_ (ent_cell hLt)
  repeat' (first | (refine rG 2 [5, 10] ?_; ((try (refine wK ?_; intro _)))) | (refine rG 4 [4] ?_; ((try refine wO ?_) <;> (try ((refine o_callH (htw _ _ inferInstance) (by first | exact True.intro | (show _ < _; decide)) rfl rfl (fun cb2 _ => ?_)))) <;> (try (refine wK ?_; intro _)))) | refine wC ?_ | (refine ex_split rfl ?_ ?_ <;> intro hc))
  refine fin (.inr rfl) cb2 (resl1 rfl (rv_tmp rfl)) trivial ?_
  refine Ent.trans ?_ (Ent.frameL (ent_co (b := b) (H := H) oo) _)
  rw [CEs_get L tn.toNat (cb, c) hLt]
  exact ent_take
set_option maxRecDepth 100000 in
set_option maxHeartbeats 16000000 in
theorem coTwin {X H : HP} (b : Nat) (s : Cs) [t : Take (CO b s) X H] {n : Nat} (ok : CsOk s n) (hn : n ≤ 10000) :
    Spec Tryz.prog 32 [.pointer (some ⟨b, 0, none⟩)] X (X := Nat) (fun y => .pointer (some ⟨y, 0, none⟩)) (fun _ => True) (fun y => CO y s * X) := by
  rw [t.eq]
  refine co_open fun sa sc_ L pa pc_ bb bs oo => ?_
  rw [COr_flat]
  have hL8 : L.length = 8 := oo.l8
  have hb8 : bs.length = 8 := oo.b8
  have hpl := ok.pots
  have hps := ok.sinks
  have hbl : ∀ j (h : j < bs.length), (bs[j]).2.2.length ≤ 1000000 := by
    intro j h
    have hm : (bs[j]).2.2 ∈ s.told := by rw [← oo.told]; exact List.mem_map.2 ⟨bs[j], List.getElem_mem h, rfl⟩
    have := ok.told _ hm
    omega
  have hsub : sub (coc s.bu s.ro s.qu s.ticks sa s.sinks.length sc_ L pa s.pots.length pc_ bb) 0 15 = some (coc s.bu s.ro s.qu s.ticks sa s.sinks.length sc_ L pa s.pots.length pc_ bb) := by
    obtain ⟨x0, x1, x2, x3, x4, x5, x6, x7, rfl⟩ := list8 hL8
    rfl
  have hpots : (coc s.bu s.ro s.qu s.ticks sa s.sinks.length sc_ L pa s.pots.length pc_ bb)[0 + 12]? = some (.slice pa s.pots.length pc_) := by
    obtain ⟨x0, x1, x2, x3, x4, x5, x6, x7, rfl⟩ := list8 hL8
    rfl
  have hboard : (coc s.bu s.ro s.qu s.ticks sa s.sinks.length sc_ L pa s.pots.length pc_ bb)[0 + 13]? = some (.pointer (some ⟨bb, 0, none⟩)) := by
    obtain ⟨x0, x1, x2, x3, x4, x5, x6, x7, rfl⟩ := list8 hL8
    rfl
  have htw := Bd.twin bb (cl true bb (bs.map Bd.bcell) 146 (0, 0) * Bd.bm bs) bs hb8 hbl (fun j h => ⟨(rd_bm h).rd.right _⟩)
  refine spec_of Tryz.func32 rfl Tryz.ntmps32 rfl ?_
  repeat' (first | (refine rG 0 [0] ?_; ((try (refine wK ?_; intro _)))) | (refine ex_regk (id := 1) (ts := [0, 3]) ?_; ((try (first | refine o_mv (v := .pointer _) (by decide) rfl ?_ | refine o_mv (by decide) rfl ?_)) <;> (try (first | refine o_nil (by decide) rfl ?_ | refine o_nil_func (by decide) rfl ?_)) <;> (try (refine o_load_a (vs := coc s.bu s.ro s.qu s.ticks sa s.sinks.length sc_ L pa s.pots.length pc_ bb) (by decide) rfl hsub ?_)) <;> (try ((refine o_alloc_a (by decide) (fun b3 => ?_)))) <;> (try ((refine o_store_a rfl rfl (coc_len hL8) coc_all (by rw [coc_len hL8]; rfl) ?_))) <;> (try (refine ops_nilk ?_; intro _)) <;> (try ((first | refine keep_cons (v := .pointer _) rfl ?_ | refine keep_cons (v := _) rfl ?_) <;> (first | refine keep_cons (v := .pointer _) rfl ?_ | refine keep_cons (v := _) rfl ?_))) <;> (try refine keep_nil ?_))) | refine wC ?_ | (refine ex_split rfl ?_ ?_ <;> intro hc))
  refine Ex.ent ?_ (ent_clL (b := b3) (l' := coc s.bu s.ro s.qu s.ticks sa s.sinks.length sc_ L pa s.pots.length pc_ bb) (by
    rw [spl_eq _ _ _ (by rw [coc_len hL8]; simp), coc_len hL8]; simp))
  repeat' (first | (refine ex_regk (id := 2) (ts := [0, 3]) ?_; ((try (first | refine o_mv (v := .pointer _) (by decide) rfl ?_ | refine o_mv (by decide) rfl ?_)) <;> (try (first | refine o_nil (by decide) rfl ?_ | refine o_nil_func (by decide) rfl ?_)) <;> (try (refine o_fieldAddr' (by decide) rfl ?_)) <;> (try (refine o_load_s (v := .pointer (some ⟨bb, 0, none⟩)) (by decide) rfl hboard ?_)) <;> (try ((refine o_call htw (by first | exact True.intro | (show _ < _; decide)) rfl rfl (fun y hy => ?_); obtain ⟨bb2, bs2⟩ := y))) <;> (try (refine o_fieldAddr' (by decide) rfl ?_)) <;> (try ((refine o_store_s (v := .pointer _) rfl rfl rfl (by rw [coc_len hL8]; rfl) ?_))) <;> (try (refine ops_nilk ?_; intro _)) <;> (try ((first | refine keep_cons (v := .pointer _) rfl ?_ | refine keep_cons (v := _) rfl ?_) <;> (first | refine keep_cons (v := .pointer _) rfl ?_ | refine keep_cons (v := _) rfl ?_))) <;> (try refine keep_nil ?_))) | refine wC ?_ | (refine ex_split rfl ?_ ?_ <;> intro hc))
  have hs1 : spl (coc s.bu s.ro s.qu s.ticks sa s.sinks.length sc_ L pa s.pots.length pc_ bb) (0 + 13) [.pointer (some ⟨bb2, 0, none⟩)] = coc s.bu s.ro s.qu s.ticks sa s.sinks.length sc_ L pa s.pots.length pc_ bb2 := by
    obtain ⟨x0, x1, x2, x3, x4, x5, x6, x7, rfl⟩ := list8 hL8
    rfl
  refine Ex.ent ?_ (ent_clL (b := b3) (l' := coc s.bu s.ro s.qu s.ticks sa s.sinks.length sc_ L pa s.pots.length pc_ bb2) hs1)
  repeat' (first | (refine ex_regk (id := 3) (ts := [0, 3]) ?_; ((try (first | refine o_mv (v := .pointer _) (by decide) rfl ?_ | refine o_mv (by decide) rfl ?_)) <;> (try (first | refine o_nil (by decide) rfl ?_ | refine o_nil_func (by decide) rfl ?_)) <;> (try (refine o_fieldAddr' (by decide) rfl ?_)) <;> (try (refine o_load_s (v := .slice pa s.pots.length pc_) (by decide) rfl hpots ?_)) <;> (try ((refine o_callH (cloneP _ pa s.pots pc_ (by omega)) (by first | exact True.intro | (show _ < _; decide)) rfl rfl (fun y hpc2 => ?_); obtain ⟨pa2, pc2⟩ := y))) <;> (try (refine o_fieldAddr' (by decide) rfl ?_)) <;> (try ((refine o_store_s (v := .slice _ _ _) rfl rfl rfl (by rw [coc_len hL8]; rfl) ?_))) <;> (try (refine ops_nilk ?_; intro _)) <;> (try ((first | refine keep_cons (v := .pointer _) rfl ?_ | refine keep_cons (v := _) rfl ?_) <;> (first | refine keep_cons (v := .pointer _) rfl ?_ | refine keep_cons (v := _) rfl ?_))) <;> (try refine keep_nil ?_))) | refine wC ?_ | (refine ex_split rfl ?_ ?_ <;> intro hc))
  have hs2 : spl (coc s.bu s.ro s.qu s.ticks sa s.sinks.length sc_ L pa s.pots.length pc_ bb2) (0 + 12) [.slice pa2 s.pots.length pc2] = coc s.bu s.ro s.qu s.ticks sa s.sinks.length sc_ L pa2 s.pots.length pc2 bb2 := by
    obtain ⟨x0, x1, x2, x3, x4, x5, x6, x7, rfl⟩ := list8 hL8
    rfl
  refine Ex.ent ?_ (ent_clL (b := b3) (l' := coc s.bu s.ro s.qu s.ticks sa s.sinks.length sc_ L pa2 s.pots.length pc2 bb2) hs2)
  repeat' (first | (refine rG 4 [0, 3, 20] ?_; ((try (refine wK ?_; intro _)))) | refine wC ?_ | (refine ex_split rfl ?_ ?_ <;> intro hc))
  obtain ⟨hb28, hb2⟩ := hy
  have hb28 : bs2.length = 8 := hb28
  refine Ex.ent ?_ (Ent.trans (rs_dup (a := sa) (l := s.sinks.flatMap sc)) (Ent.frameL (Ent.trans (B := cl true b3 (coc s.bu s.ro s.qu s.ticks sa s.sinks.length sc_ L pa2 s.pots.length pc2 bb2) 102 (0, 0) * (ow 108 4 pa2 s.pots.length pc2 (s.pots.flatMap potc) * (cl true bb2 (bs2.map Bd.bcell) 146 (0, 0) * (Bd.bm bs2 * (cl true b (coc s.bu s.ro s.qu s.ticks sa s.sinks.length sc_ L pa s.pots.length pc_ bb) 102 (0, 0) * (rs sa (s.sinks.flatMap sc) * (CEs L * (ow 108 4 pa s.pots.length pc_ (s.pots.flatMap potc) * (cl true bb (bs.map Bd.bcell) 146 (0, 0) * (Bd.bm bs * H)))))))))) ent_take (Ent.frameL (Ent.frameL (Ent.frameL (Ent.frameL (ent_co (b := b) (H := H) oo) _) _) _) _)) _))
  refine ex_loopE (fun mm e H' => ∃ g, ∃ j : Nat, ∃ M : Cl, e = put (put (put g 0 (.pointer (some ⟨b, 0, none⟩))) 3 (.pointer (some ⟨b3, 0, none⟩))) 20 (.int .i64 (j : Int)) ∧
    H' = cl true b3 (coc s.bu s.ro s.qu s.ticks sa s.sinks.length sc_ M pa2 s.pots.length pc2 bb2) 102 (0, 0) * (CEs (M.take j) * (ow 108 4 pa2 s.pots.length pc2 (s.pots.flatMap potc) * (cl true bb2 (bs2.map Bd.bcell) 146 (0, 0) * (Bd.bm bs2 * (rs sa (s.sinks.flatMap sc) * (CO b s * H)))))) ∧ M.length = 8 ∧ (M.take j).map (fun x => x.map (·.2)) = s.cells.take j ∧ j ≤ 8 ∧ mm = 8 - j) (m := 8) ⟨_, 0, L, rfl, rfl, hL8, rfl, by omega, rfl⟩ ?_ ?_
  · show Ent _ (cl true b3 (coc s.bu s.ro s.qu s.ticks sa s.sinks.length sc_ L pa2 s.pots.length pc2 bb2) 102 (0, 0) * (1 * (ow 108 4 pa2 s.pots.length pc2 (s.pots.flatMap potc) * (cl true bb2 (bs2.map Bd.bcell) 146 (0, 0) * (Bd.bm bs2 * (rs sa (s.sinks.flatMap sc) * (CO b s * H)))))))
    exact ent_take
  · rintro mm e H' ⟨g, j, M, rfl, rfl, hM8, hMc, hj, rfl⟩
    by_cases hlt : j < 8
    · have hd : decide ((j : Int) < 8) = true := decide_eq_true (by omega)
      have h0 : 0 ≤ (j : Int) := by omega
      have h1 : (j : Int) < 8 := by omega
      have ei : IntKind.i64.wrap ((j : Int) + 1) = ((j + 1 : Nat) : Int) := by rw [IntKind.wrap_i64]; omega
      have hjM : j < M.length := by omega
      have hjc : j < s.cells.length := by rw [ok.c8]; exact hlt
      have hset := fun x => coc_set (bu := s.bu) (ro := s.ro) (qu := s.qu) (ti := s.ticks) (sa := sa) (ns := s.sinks.length) (sc_ := sc_) (pa := pa2) (np := s.pots.length) (pc_ := pc2) (bb := bb2) hjM (o := 0 + 4 + (j : Int).toNat * 1) (by rw [Int.toNat_natCast]; omega) x
      have hblt : Nat.blt (0 + 4 + (j : Int).toNat * 1) (coc s.bu s.ro s.qu s.ticks sa s.sinks.length sc_ M pa2 s.pots.length pc2 bb2).length = true := by
        rw [coc_len hM8, Nat.blt_eq, Int.toNat_natCast]; omega
      have htk : ∀ x, (M.set j x).take (j + 1) = M.take j ++ [x] := by
        intro x
        rw [List.take_succ_eq_append_getElem (by rw [List.length_set]; exact hjM), List.take_set, List.getElem_set_self, List.set_eq_of_length_le (by rw [List.length_take]; omega)]
      have hck : s.cells.take (j + 1) = s.cells.take j ++ [cell s j] := by
        rw [List.take_succ_eq_append_getElem hjc]
        unfold cell
        rw [List.getElem?_eq_getElem hjc]; rfl
      have hcI : cellI s (j : Int) = cell s j := by unfold cellI; rw [if_pos (by omega), Int.toNat_natCast]
      cases hc : cell s j with
      | none =>
        have hcn := fun (X' H' : HP) (h1 : Take (CO b s) X' H') => coCellN b s (j : Int) (t := h1) (hcI.trans hc)
        repeat' (first | (refine rG 5 [0, 3, 20, 21] ?_; ((try (refine wK ?_; intro _)))) | (refine rG 6 [0, 3, 4, 20] ?_; ((try (refine wK ?_; intro _)))) | (refine ex_regk (id := 7) (ts := [0, 3, 20]) ?_; ((try (first | refine o_mv (v := .int _ _) (by decide) rfl ?_ | refine o_mv (by decide) rfl ?_)) <;> (try (first | refine o_mv (v := .pointer _) (by decide) rfl ?_ | refine o_mv (by decide) rfl ?_)) <;> (try (first | refine o_mv (v := .int _ _) (by decide) rfl ?_ | refine o_mv (by decide) rfl ?_)) <;> (try ((refine o_callH (hcn _ _ inferInstance) (by first | exact True.intro | (show _ < _; decide)) rfl rfl (fun _ _ => ?_)))) <;> (try (refine o_fieldAddr' (by decide) rfl ?_)) <;> (try (refine o_indexA (by decide) rfl rfl (by first | decide | assumption | omega) (by first | decide | assumption | omega) ?_)) <;> (try ((refine o_store_s (v := .pointer none) rfl rfl rfl hblt ?_))) <;> (try (refine ops_nilk ?_; intro _)) <;> (try ((first | refine keep_cons (v := .pointer _) rfl ?_ | refine keep_cons (v := _) rfl ?_) <;> (first | refine keep_cons (v := .pointer _) rfl ?_ | refine keep_cons (v := _) rfl ?_) <;> (first | refine keep_cons (v := .int _ _) rfl ?_ | refine keep_cons (v := _) rfl ?_))) <;> (try refine keep_nil ?_))) | (refine rG 8 [0, 3, 20] ?_; ((try (refine wK ?_; intro _)))) | refine wC ?_ | (refine ex_split rfl ?_ ?_ <;> intro hc))
        rw [ei]
        refine ⟨8 - (j + 1), by omega, _, ?_, _, j + 1, M.set j none, rfl, rfl, by rw [List.length_set]; exact hM8, ?_, by omega, rfl⟩
        · rw [htk, CEs_append]
          refine Ent.trans (ent_clL (b := b3) (l' := coc s.bu s.ro s.qu s.ticks sa s.sinks.length sc_ (M.set j none) pa2 s.pots.length pc2 bb2) (hset none)) ?_
          show Ent _ (cl true b3 (coc s.bu s.ro s.qu s.ticks sa s.sinks.length sc_ (M.set j none) pa2 s.pots.length pc2 bb2) 102 (0, 0) * ((CEs (M.take j) * 1) * (ow 108 4 pa2 s.pots.length pc2 (s.pots.flatMap potc) * (cl true bb2 (bs2.map Bd.bcell) 146 (0, 0) * (Bd.bm bs2 * (rs sa (s.sinks.flatMap sc) * (CO b s * H)))))))
          exact ent_take
        · rw [htk, hck, List.map_append, hMc, hc]; rfl
      | some c =>
        have hcn := fun (X' H' : HP) (h1 : Take (CO b s) X' H') => coCellS b s (j : Int) (t := h1) ok hn (hcI.trans hc)
        repeat' (first | (refine rG 5 [0, 3, 20, 21] ?_; ((try (refine wK ?_; intro _)))) | (refine rG 6 [0, 3, 4, 20] ?_; ((try (refine wK ?_; intro _)))) | (refine ex_regk (id := 7) (ts := [0, 3, 20]) ?_; ((try (first | refine o_mv (v := .int _ _) (by decide) rfl ?_ | refine o_mv (by decide) rfl ?_)) <;> (try (first | refine o_mv (v := .pointer _) (by decide) rfl ?_ | refine o_mv (by decide) rfl ?_)) <;> (try (first | refine o_mv (v := .int _ _) (by decide) rfl ?_ | refine o_mv (by decide) rfl ?_)) <;> (try ((refine o_callH (hcn _ _ inferInstance) (by first | exact True.intro | (show _ < _; decide)) rfl rfl (fun cb _ => ?_)))) <;> (try (refine o_fieldAddr' (by decide) rfl ?_)) <;> (try (refine o_indexA (by decide) rfl rfl (by first | decide | assumption | omega) (by first | decide | assumption | omega) ?_)) <;> (try ((refine o_store_s (v := .pointer _) rfl rfl rfl hblt ?_))) <;> (try (refine ops_nilk ?_; intro _)) <;> (try ((first | refine keep_cons (v := .pointer _) rfl ?_ | refine keep_cons (v := _) rfl ?_) <;> (first | refine keep_cons (v := .pointer _) rfl ?_ | refine keep_cons (v := _) rfl ?_) <;> (first | refine keep_cons (v := .int _ _) rfl ?_ | refine keep_cons (v := _) rfl ?_))) <;> (try refine keep_nil ?_))) | (refine rG 8 [0, 3, 20] ?_; ((try (refine wK ?_; intro _)))) | refine wC ?_ | (refine ex_split rfl ?_ ?_ <;> intro hc))
        rw [ei]
        refine ⟨8 - (j + 1), by omega, _, ?_, _, j + 1, M.set j (some (cb, c)), rfl, rfl, by rw [List.length_set]; exact hM8, ?_, by omega, rfl⟩
        · rw [htk, CEs_append]
          refine Ent.trans (ent_clL (b := b3) (l' := coc s.bu s.ro s.qu s.ticks sa s.sinks.length sc_ (M.set j (some (cb, c))) pa2 s.pots.length pc2 bb2) (hset (some (cb, c)))) ?_
          show Ent _ (cl true b3 (coc s.bu s.ro s.qu s.ticks sa s.sinks.length sc_ (M.set j (some (cb, c))) pa2 s.pots.length pc2 bb2) 102 (0, 0) * ((CEs (M.take j) * (CE cb c * 1)) * (ow 108 4 pa2 s.pots.length pc2 (s.pots.flatMap potc) * (cl true bb2 (bs2.map Bd.bcell) 146 (0, 0) * (Bd.bm bs2 * (rs sa (s.sinks.flatMap sc) * (CO b s * H)))))))
          exact ent_take
        · rw [htk, hck, List.map_append, hMc, hc]; rfl
    · have hil : j = 8 := by omega
      subst hil
      have hd : decide (((8 : Nat) : Int) < 8) = false := rfl
      rw [List.take_of_length_le (by omega)] at hMc
      rw [List.take_of_length_le (by omega)]
      have hMc : M.map (fun x => x.map (·.2)) = s.cells := by rw [hMc, List.take_of_length_le (by rw [ok.c8]; omega)]
      have oo2 : OaOk s ⟨sa, sc_, M, pa2, pc2, bb2, bs2⟩ := by
        refine ⟨hM8, hMc, hpc2, oo.sc, hb28, ?_, ?_⟩
        · show bs2.map (·.2.2) = s.told
          rw [← oo.told]
          apply List.ext_getElem
          · simp [hb28, hb8]
          · intro j h3 h4
            simp only [List.getElem_map]
            exact (hb2 j (by simp at h3; omega) (by simpa using h3)).1
        · intro j h
          exact (hb2 j (by simp only at h; omega) h).2
      repeat' (first | (refine rG 5 [0, 3, 20, 21] ?_; ((try (refine wK ?_; intro _)))) | (refine rG 9 [2] ?_; ((try (refine wK ?_; intro _)))) | refine wC ?_ | (refine ex_split rfl ?_ ?_ <;> intro hc))
      refine fin (.inr rfl) b3 (resl1 rfl (rv_tmp rfl)) trivial ?_
      refine Ent.trans ?_ (ent_co (b := b3) (H := CO b s * H) oo2)
      exact ent_take
end Go.Proofs.YtcelailgedndnaaGreatS
namespace Go.Proofs.YtcelailgedndnaaGreatS
open Go.RowKit
set_option linter.unusedVariables false
set_option linter.unusedSimpArgs false
abbrev p0 : Pp := ([], 0, 0, 0, 0, 0)
abbrev z0 : In := (false, 0, 0, 0, 0)
def rowsOf (s : Cs) (t : Int) : List Rw := match cellI s t with | none => [] | some c => c.rows
def toldOf (s : Cs) (t : Int) : List Bd.Rl := (s.told[t.toNat]?).getD []
theorem tk32 {α : Type} (l : List α) (m : Nat) : (l.drop m).take (Bd.tk 32 (l.length - m)) = (l.drop m).take 32 := by
  have : Bd.tk 32 (l.length - m) = min 32 (l.drop m).length := by rw [List.length_drop]; unfold Bd.tk; simp
  rw [this, List.take_eq_take_iff]; omega
theorem poll_ans (s : Cs) (t : Int) (m : Nat) (h : m ≤ (rowsOf s t).length) : ∃ e, doS (4, t, (m : Int), 32, p0, z0) s = (s, e, ((rowsOf s t).drop m).take 32, []) := by
  have hd : doS (4, t, (m : Int), 32, p0, z0) s = (match cellI s t with
      | none => (s, 2, [], [])
      | some c => (s, (rowsAt (m : Int) 32 c).2, (rowsAt (m : Int) 32 c).1, [])) := by
    unfold doS
    rw [if_neg (show ¬ ((4 : Int) = 1) by decide), if_neg (show ¬ ((4 : Int) = 3) by decide), if_neg (show ¬ ((4 : Int) = 5) by decide), if_neg (show ¬ ((4 : Int) ≠ 2 ∧ (4 : Int) ≠ 4) by decide)]
    show (match cellI s t with | none => _ | some c => _) = _
    cases cellI s t <;> rfl
  rw [hd]
  unfold rowsOf at h ⊢
  cases hc : cellI s t with
  | none => exact ⟨2, by simp⟩
  | some c =>
    rw [hc] at h
    have h : m ≤ c.rows.length := h
    refine ⟨0, ?_⟩
    show (s, (rowsAt (m : Int) 32 c).2, (rowsAt (m : Int) 32 c).1, []) = _
    rw [rowsAt_ok (by omega), Int.toNat_natCast, tk32]
theorem told_ans (s : Cs) (t : Int) (m : Nat) (h7 : 0 ≤ t ∧ t ≤ 7) (h : m ≤ (toldOf s t).length) : doS (5, t, (m : Int), 32, p0, z0) s = (s, 0, [], ((toldOf s t).drop m).take 32) := by
  have hd : doS (5, t, (m : Int), 32, p0, z0) s = (s, (toldAt t (m : Int) 32 s).2, [], (toldAt t (m : Int) 32 s).1) := by
    unfold doS
    rw [if_neg (show ¬ ((5 : Int) = 1) by decide), if_neg (show ¬ ((5 : Int) = 3) by decide), if_pos rfl]
  rw [hd]
  unfold toldAt
  rw [if_neg (not_not_intro h7)]
  unfold toldOf at h ⊢
  simp only
  rw [if_neg (by omega), Int.toNat_natCast, tk32]
theorem take_more {α : Type} (l : List α) (m : Nat) : l.take m ++ (l.drop m).take 32 = l.take (m + 32) := by rw [List.take_add]
set_option linter.unusedVariables false
set_option linter.unusedSimpArgs false
attribute [local irreducible] Ops Ex Spec T V QO OA Rn OS
theorem ent_anm {y : Ay} {e : Int} {rows : List Rw} {rels : List Bd.Rl} {H R : HP} [t : Take (anm y (e, rows, rels)) H R] : Ent H (ow 67 5 y.1.1 rows.length y.1.2 (rows.flatMap rwc) * (ow 79 4 y.2.1 rels.length y.2.2 (rels.flatMap Bd.lc) * R)) := by
  rw [t.eq]; unfold anm; rw [sep_assoc]; exact Ent.refl _
set_option maxRecDepth 100000 in
set_option maxHeartbeats 16000000 in
theorem topRows {X H : HP} (b : Nat) (s : Cs) (tn : Int) [t : Take (CO b s) X H] {n : Nat} (ok : CsOk s n) (hn : n ≤ 9000) (hR : (rowsOf s tn).length ≤ 6400) :
    Spec Tryz.prog 13 [.pointer (some ⟨b, 0, none⟩), .int .i64 tn] X (X := Option Addr × Nat) (fun y => .slice y.1 (rowsOf s tn).length y.2) (fun y => (rowsOf s tn).length ≤ y.2)
      (fun y => ow 67 5 y.1 (rowsOf s tn).length y.2 ((rowsOf s tn).flatMap rwc) * X) := by
  rw [t.eq]
  refine spec_of Tryz.func13 rfl Tryz.ntmps13 rfl ?_
  repeat' (first | (refine rG 0 [0, 1] ?_; ((try (refine wK ?_; intro _)))) | (refine rG 1 [0, 1, 5] ?_; ((try (refine wK ?_; intro _)))) | (refine rG 2 [0, 1, 5, 7] ?_; ((try (refine wK ?_; intro _)))) | refine wC ?_ | (refine ex_split rfl ?_ ?_ <;> intro hc))
  refine Ex.ent ?_ (Ent.ow_none 67 5 _)
  refine ex_loopE (fun mm e H' => ∃ g, ∃ i : Nat, ∃ L : List Rw, ∃ ra, ∃ rc : Nat, e = put (put (put (put g 0 (.pointer (some ⟨b, 0, none⟩))) 1 (.int .i64 tn)) 5 (.slice ra L.length rc)) 7 (.int .i64 (i : Int)) ∧
    H' = ow 67 5 ra L.length rc (L.flatMap rwc) * (CO b s * H) ∧ L = (rowsOf s tn).take (32 * i) ∧ i ≤ 200 ∧ L.length ≤ rc ∧ mm = 200 - i) (m := 200) ⟨_, 0, [], none, 0, rfl, rfl, by simp, by omega, by simp, by omega⟩ ?_ ?_
  · exact Ent.refl _
  · rintro mm e H' ⟨g, i, L, ra, rc, rfl, rfl, hL, hi, hrc, rfl⟩
    by_cases hlt : i < 200
    · have hd : decide ((i : Int) < 200) = true := decide_eq_true (by omega)
      have ei : IntKind.i64.wrap ((i : Int) + 1) = ((i + 1 : Nat) : Int) := by rw [IntKind.wrap_i64]; omega
      have hLl : L.length ≤ (rowsOf s tn).length := by rw [hL, List.length_take]; omega
      obtain ⟨er, hans⟩ := poll_ans s tn L.length hLl
      have hLt : L = (rowsOf s tn).take L.length := by rw [hL, List.length_take, List.take_eq_take_iff]; omega
      have hmore := take_more (rowsOf s tn) L.length
      rw [← hLt] at hmore
      have hdo := fun (aa : Option Addr) (X' H' : HP) (h1 : Take (CO b s) X' H') (h2 : RdC H' aa (acc none 0 (4, tn, (L.length : Int), 32, p0, z0))) => coDo1 b s aa none 0 (4, tn, (L.length : Int), 32, p0, z0) 1 (t := h1) (hr := h2) (hro := rdc_nil _) (Nat.zero_le _) ok hn
      rw [hans] at hdo
      have hout : (((rowsOf s tn).drop L.length).take 32).length ≤ 32 := by rw [List.length_take]; omega
      have hfull : ((rowsOf s tn).drop L.length).take 32 = [] → L = rowsOf s tn := by
        intro h
        have h2 := congrArg List.length h
        rw [List.length_take, List.length_drop] at h2
        rw [hLt, List.take_of_length_le (by simp at h2; omega)]
      have hnf : ((rowsOf s tn).drop L.length).take 32 ≠ [] → L.length = 32 * i := by
        intro h
        rw [hL, List.length_take]
        by_cases hh : 32 * i ≤ (rowsOf s tn).length
        · omega
        · exfalso; apply h; rw [hL, List.length_take, List.drop_of_length_le (by omega)]; rfl
      generalize hO : ((rowsOf s tn).drop L.length).take 32 = out at *
      repeat' (first | (refine rG 3 [0, 1, 5, 7, 8] ?_; ((try (refine wK ?_; intro _)))) | (refine ex_regk (id := 4) (ts := [0, 1, 5, 6, 7]) ?_; ((try (first | refine o_mv (v := .pointer _) (by decide) rfl ?_ | refine o_mv (by decide) rfl ?_)) <;> (try (first | refine o_mv (v := .int _ _) (by decide) rfl ?_ | refine o_mv (by decide) rfl ?_)) <;> (try (first | refine o_mv (v := .slice _ _ _) (by decide) rfl ?_ | refine o_mv (by decide) rfl ?_)) <;> (try (refine o_len (by decide) rfl rfl ?_)) <;> (try (refine o_build (cells := acc none 0 (4, tn, (L.length : Int), 32, p0, z0)) (by decide) rfl ?_)) <;> (try ((refine o_buildSlice (by decide) rfl rfl rfl (fun _ => ?_)))) <;> (try ((refine o_callH (hdo _ _ _ inferInstance inferInstance) (by first | exact True.intro | (show _ < _; decide)) rfl rfl (fun y hy => ?_); obtain ⟨ya, yc, ⟨⟨oa, oc_⟩, la, lc_⟩⟩ := y))) <;> (try (first | refine o_as (v := .slice _ _ _) (by decide) rfl ?_ | refine o_as (by decide) rfl ?_)) <;> (try (refine ops_nilk ?_; intro _)) <;> (try ((first | refine keep_cons (v := .pointer _) rfl ?_ | refine keep_cons (v := _) rfl ?_) <;> (first | refine keep_cons (v := .int _ _) rfl ?_ | refine keep_cons (v := _) rfl ?_) <;> (first | refine keep_cons (v := .slice _ _ _) rfl ?_ | refine keep_cons (v := _) rfl ?_) <;> (first | refine keep_cons (v := .slice _ _ _) rfl ?_ | refine keep_cons (v := _) rfl ?_) <;> (first | refine keep_cons (v := .int _ _) rfl ?_ | refine keep_cons (v := _) rfl ?_))) <;> (try refine keep_nil ?_))) | refine wC ?_ | (refine ex_split rfl ?_ ?_ <;> intro hc))
      refine Ex.rd_some (a := ya) (l := anc ((oa, oc_), (la, lc_)) (er, out, [])) (Nat.succ_pos _) (fun yd ha => ?_)
      subst ha
      have hvl : (anc ((oa, oc_), (la, lc_)) (er, out, []))[(0 : Int).toNat * 3 + 1]? = some (.slice oa out.length oc_) := rfl
      have d33 : decide ((out.length : Int) > 32) = false := decide_eq_false (by omega)
      by_cases ho : out = []
      · have d25 : ((out.length : Int) == 0) = true := by rw [ho]; rfl
        have hLe := hfull ho
        repeat' (first | (refine rG 5 [0, 1, 5, 6, 7, 34] ?_; ((try refine wO ?_) <;> (repeat' (refine g_split rfl (by decide) rfl (by decide) ?_ ?_ <;> intro hc <;> (try refine wO ?_))) <;> (try (refine wK ?_; intro _)))) | (refine rG 8 [4] ?_; ((try (refine wK ?_; intro _)))) | refine wC ?_ | (refine ex_split rfl ?_ ?_ <;> intro hc))
        rw [← hLe]
        exact fin (.inr rfl) (ra, rc) (resl1 rfl (rv_tmp rfl)) hrc ent_take
      · have d25 : ((out.length : Int) == 0) = false := by
          have := List.length_pos_iff.2 ho
          exact beq_eq_false_iff_ne.2 (by omega)
        repeat' (first | (refine rG 5 [0, 1, 5, 6, 7, 34] ?_; ((try refine wO ?_) <;> (repeat' (refine g_split rfl (by decide) rfl (by decide) ?_ ?_ <;> intro hc <;> (try refine wO ?_))) <;> (try (refine wK ?_; intro _)))) | refine wC ?_ | (refine ex_split rfl ?_ ?_ <;> intro hc))
        refine Ex.ent ?_ (ent_anm (y := ((oa, oc_), (la, lc_))) (e := er) (rows := out) (rels := []))
        repeat' (first | (refine rG 6 [0, 1, 5, 7] ?_; ((try refine wO ?_) <;> (try (refine o_appendT (cells := rwc) (xs := L) (ys := out) rwc_len rwc_one (by decide) rfl rfl rfl rfl rfl (by omega) (by simp only [maxLen]; omega) (fun a' cap' hc' => ?_))) <;> (try (refine wK ?_; intro _)))) | refine wC ?_ | (refine ex_split rfl ?_ ?_ <;> intro hc))
        repeat' (first | (refine rG 7 [0, 1, 5, 7] ?_; ((try (refine wK ?_; intro _)))) | refine wC ?_ | (refine ex_split rfl ?_ ?_ <;> intro hc))
        rw [ei]
        refine ⟨200 - (i + 1), by omega, _, ?_, _, i + 1, L ++ out, a', cap', rfl, rfl, ?_, by omega, hc', rfl⟩
        · exact ent_take
        · rw [hmore, hnf ho]; congr 1
    · have hil : i = 200 := by omega
      subst hil
      have hd : decide (((200 : Nat) : Int) < 200) = false := rfl
      have hLe : L = rowsOf s tn := by rw [hL, List.take_of_length_le (by omega)]
      repeat' (first | (refine rG 3 [0, 1, 5, 7, 8] ?_; ((try (refine wK ?_; intro _)))) | (refine rG 8 [4] ?_; ((try (refine wK ?_; intro _)))) | refine wC ?_ | (refine ex_split rfl ?_ ?_ <;> intro hc))
      rw [← hLe]
      exact fin (.inr rfl) (ra, rc) (resl1 rfl (rv_tmp rfl)) hrc (Ent.refl _)
set_option maxRecDepth 100000 in
set_option maxHeartbeats 16000000 in
theorem topTold {X H : HP} (b : Nat) (s : Cs) (tn : Int) [t : Take (CO b s) X H] {n : Nat} (ok : CsOk s n) (hn : n ≤ 9000) (h7 : 0 ≤ tn ∧ tn ≤ 7) (hR : (toldOf s tn).length ≤ 640) :
    Spec Tryz.prog 22 [.pointer (some ⟨b, 0, none⟩), .int .i64 tn] X (X := Option Addr × Nat) (fun y => .slice y.1 (toldOf s tn).length y.2) (fun y => (toldOf s tn).length ≤ y.2)
      (fun y => ow 79 4 y.1 (toldOf s tn).length y.2 ((toldOf s tn).flatMap Bd.lc) * X) := by
  rw [t.eq]
  refine spec_of Tryz.func22 rfl Tryz.ntmps22 rfl ?_
  repeat' (first | (refine rG 0 [0, 1] ?_; ((try (refine wK ?_; intro _)))) | (refine rG 1 [0, 1, 5] ?_; ((try (refine wK ?_; intro _)))) | (refine rG 2 [0, 1, 5, 7] ?_; ((try (refine wK ?_; intro _)))) | refine wC ?_ | (refine ex_split rfl ?_ ?_ <;> intro hc))
  refine Ex.ent ?_ (Ent.ow_none 79 4 _)
  refine ex_loopE (fun mm e H' => ∃ g, ∃ i : Nat, ∃ L : List Bd.Rl, ∃ ra, ∃ rc : Nat, e = put (put (put (put g 0 (.pointer (some ⟨b, 0, none⟩))) 1 (.int .i64 tn)) 5 (.slice ra L.length rc)) 7 (.int .i64 (i : Int)) ∧
    H' = ow 79 4 ra L.length rc (L.flatMap Bd.lc) * (CO b s * H) ∧ L = (toldOf s tn).take (32 * i) ∧ i ≤ 20 ∧ L.length ≤ rc ∧ mm = 20 - i) (m := 20) ⟨_, 0, [], none, 0, rfl, rfl, by simp, by omega, by simp, by omega⟩ ?_ ?_
  · exact Ent.refl _
  · rintro mm e H' ⟨g, i, L, ra, rc, rfl, rfl, hL, hi, hrc, rfl⟩
    by_cases hlt : i < 20
    · have hd : decide ((i : Int) < 20) = true := decide_eq_true (by omega)
      have ei : IntKind.i64.wrap ((i : Int) + 1) = ((i + 1 : Nat) : Int) := by rw [IntKind.wrap_i64]; omega
      have hLl : L.length ≤ (toldOf s tn).length := by rw [hL, List.length_take]; omega
      have hans := told_ans s tn L.length h7 hLl
      have hLt : L = (toldOf s tn).take L.length := by rw [hL, List.length_take, List.take_eq_take_iff]; omega
      have hmore := take_more (toldOf s tn) L.length
      rw [← hLt] at hmore
      have hdo := fun (aa : Option Addr) (X' H' : HP) (h1 : Take (CO b s) X' H') (h2 : RdC H' aa (acc none 0 (5, tn, (L.length : Int), 32, p0, z0))) => coDo1 b s aa none 0 (5, tn, (L.length : Int), 32, p0, z0) 1 (t := h1) (hr := h2) (hro := rdc_nil _) (Nat.zero_le _) ok hn
      rw [hans] at hdo
      have hout : (((toldOf s tn).drop L.length).take 32).length ≤ 32 := by rw [List.length_take]; omega
      have hfull : ((toldOf s tn).drop L.length).take 32 = [] → L = toldOf s tn := by
        intro h
        have h2 := congrArg List.length h
        rw [List.length_take, List.length_drop] at h2
        rw [hLt, List.take_of_length_le (by simp at h2; omega)]
      have hnf : ((toldOf s tn).drop L.length).take 32 ≠ [] → L.length = 32 * i := by
        intro h
        rw [hL, List.length_take]
        by_cases hh : 32 * i ≤ (toldOf s tn).length
        · omega
        · exfalso; apply h; rw [hL, List.length_take, List.drop_of_length_le (by omega)]; rfl
      generalize hO : ((toldOf s tn).drop L.length).take 32 = out at *
      repeat' (first | (refine rG 3 [0, 1, 5, 7, 8] ?_; ((try (refine wK ?_; intro _)))) | (refine ex_regk (id := 4) (ts := [0, 1, 5, 6, 7]) ?_; ((try (first | refine o_mv (v := .pointer _) (by decide) rfl ?_ | refine o_mv (by decide) rfl ?_)) <;> (try (first | refine o_mv (v := .int _ _) (by decide) rfl ?_ | refine o_mv (by decide) rfl ?_)) <;> (try (first | refine o_mv (v := .slice _ _ _) (by decide) rfl ?_ | refine o_mv (by decide) rfl ?_)) <;> (try (refine o_len (by decide) rfl rfl ?_)) <;> (try (refine o_build (cells := acc none 0 (5, tn, (L.length : Int), 32, p0, z0)) (by decide) rfl ?_)) <;> (try ((refine o_buildSlice (by decide) rfl rfl rfl (fun _ => ?_)))) <;> (try ((refine o_callH (hdo _ _ _ inferInstance inferInstance) (by first | exact True.intro | (show _ < _; decide)) rfl rfl (fun y hy => ?_); obtain ⟨ya, yc, ⟨⟨oa, oc_⟩, la, lc_⟩⟩ := y))) <;> (try (first | refine o_as (v := .slice _ _ _) (by decide) rfl ?_ | refine o_as (by decide) rfl ?_)) <;> (try (refine ops_nilk ?_; intro _)) <;> (try ((first | refine keep_cons (v := .pointer _) rfl ?_ | refine keep_cons (v := _) rfl ?_) <;> (first | refine keep_cons (v := .int _ _) rfl ?_ | refine keep_cons (v := _) rfl ?_) <;> (first | refine keep_cons (v := .slice _ _ _) rfl ?_ | refine keep_cons (v := _) rfl ?_) <;> (first | refine keep_cons (v := .slice _ _ _) rfl ?_ | refine keep_cons (v := _) rfl ?_) <;> (first | refine keep_cons (v := .int _ _) rfl ?_ | refine keep_cons (v := _) rfl ?_))) <;> (try refine keep_nil ?_))) | refine wC ?_ | (refine ex_split rfl ?_ ?_ <;> intro hc))
      refine Ex.rd_some (a := ya) (l := anc ((oa, oc_), (la, lc_)) ((0 : Int), [], out)) (Nat.succ_pos _) (fun yd ha => ?_)
      subst ha
      have hvl : (anc ((oa, oc_), (la, lc_)) ((0 : Int), [], out))[(0 : Int).toNat * 3 + 2]? = some (.slice la out.length lc_) := rfl
      have d33 : decide ((out.length : Int) > 32) = false := decide_eq_false (by omega)
      by_cases ho : out = []
      · have d25 : ((out.length : Int) == 0) = true := by rw [ho]; rfl
        have hLe := hfull ho
        repeat' (first | (refine rG 5 [0, 1, 5, 6, 7, 34] ?_; ((try refine wO ?_) <;> (repeat' (refine g_split rfl (by decide) rfl (by decide) ?_ ?_ <;> intro hc <;> (try refine wO ?_))) <;> (try (refine wK ?_; intro _)))) | (refine rG 8 [4] ?_; ((try (refine wK ?_; intro _)))) | refine wC ?_ | (refine ex_split rfl ?_ ?_ <;> intro hc))
        rw [← hLe]
        exact fin (.inr rfl) (ra, rc) (resl1 rfl (rv_tmp rfl)) hrc ent_take
      · have d25 : ((out.length : Int) == 0) = false := by
          have := List.length_pos_iff.2 ho
          exact beq_eq_false_iff_ne.2 (by omega)
        repeat' (first | (refine rG 5 [0, 1, 5, 6, 7, 34] ?_; ((try refine wO ?_) <;> (repeat' (refine g_split rfl (by decide) rfl (by decide) ?_ ?_ <;> intro hc <;> (try refine wO ?_))) <;> (try (refine wK ?_; intro _)))) | refine wC ?_ | (refine ex_split rfl ?_ ?_ <;> intro hc))
        refine Ex.ent ?_ (ent_anm (y := ((oa, oc_), (la, lc_))) (e := 0) (rows := []) (rels := out))
        repeat' (first | (refine rG 6 [0, 1, 5, 7] ?_; ((try refine wO ?_) <;> (try (refine o_appendT (cells := Bd.lc) (xs := L) (ys := out) Bd.lc_len Bd.lc_one (by decide) rfl rfl rfl rfl rfl (by omega) (by simp only [maxLen]; omega) (fun a' cap' hc' => ?_))) <;> (try (refine wK ?_; intro _)))) | refine wC ?_ | (refine ex_split rfl ?_ ?_ <;> intro hc))
        repeat' (first | (refine rG 7 [0, 1, 5, 7] ?_; ((try (refine wK ?_; intro _)))) | refine wC ?_ | (refine ex_split rfl ?_ ?_ <;> intro hc))
        rw [ei]
        refine ⟨20 - (i + 1), by omega, _, ?_, _, i + 1, L ++ out, a', cap', rfl, rfl, ?_, by omega, hc', rfl⟩
        · exact ent_take
        · rw [hmore, hnf ho]; congr 1
    · have hil : i = 20 := by omega
      subst hil
      have hd : decide (((20 : Nat) : Int) < 20) = false := rfl
      have hLe : L = toldOf s tn := by rw [hL, List.take_of_length_le (by omega)]
      repeat' (first | (refine rG 3 [0, 1, 5, 7, 8] ?_; ((try (refine wK ?_; intro _)))) | (refine rG 8 [4] ?_; ((try (refine wK ?_; intro _)))) | refine wC ?_ | (refine ex_split rfl ?_ ?_ <;> intro hc))
      rw [← hLe]
      exact fin (.inr rfl) (ra, rc) (resl1 rfl (rv_tmp rfl)) hrc (Ent.refl _)
end Go.Proofs.YtcelailgedndnaaGreatS
namespace Go.Proofs.YtcelailgedndnaaGreatS
open Go.RowKit
set_option linter.unusedVariables false
set_option linter.unusedSimpArgs false
def simC (c d : Cd) : Prop := c.q = d.q ∧ c.taken = d.taken ∧ c.left = d.left
/-- What any tenant sees of two cores is the same. -/
structure Sim (s1 s2 : Cs) : Prop where
  ticks : s1.ticks = s2.ticks
  cells : ∀ t, t < 8 → (cell s1 t = none ∧ cell s2 t = none) ∨ ∃ c d, cell s1 t = some c ∧ cell s2 t = some d ∧ simC c d
  told : s1.told = s2.told
theorem Sim.refl (s : Cs) : Sim s s := ⟨rfl, fun t _ => by
  cases h : cell s t with
  | none => exact .inl ⟨rfl, rfl⟩
  | some c => exact .inr ⟨c, c, rfl, rfl, rfl, rfl, rfl⟩, rfl⟩
set_option linter.unusedVariables false
set_option linter.unusedSimpArgs false
attribute [local irreducible] Ops Ex Spec T V QO OA Rn OS
theorem sameIT (H : HP) (a b : Option Addr) (l : List In) (ca cb : Nat) [ha : RdC H a (l.flatMap inc)] [hb : RdC H b (l.flatMap inc)] (hl : l.length ≤ 1000000) :
    Spec Tryz.prog 60 [.slice a l.length ca, .slice b l.length cb] H (X := Unit) (fun _ => .bool true) (fun _ => True) (fun _ => H) := by
  have h := sameI H a b l l ca cb rfl rfl hl
  rwa [show decide (l = l) = true from decide_eq_true rfl] at h
theorem sameLT (H : HP) (a b : Option Addr) (l : List Bd.Rl) (ca cb : Nat) [ha : RdC H a (l.flatMap Bd.lc)] [hb : RdC H b (l.flatMap Bd.lc)] (hl : l.length ≤ 1000000) :
    Spec Tryz.prog 59 [.slice a l.length ca, .slice b l.length cb] H (X := Unit) (fun _ => .bool true) (fun _ => True) (fun _ => H) := by
  have h := sameL H a b l l ca cb rfl rfl hl
  rwa [show decide (l = l) = true from decide_eq_true rfl] at h
theorem sameRT (H : HP) (a b : Option Addr) (l : List Rw) (ca cb : Nat) [ha : RdC H a (l.flatMap rwc)] [hb : RdC H b (l.flatMap rwc)] (hl : l.length ≤ 1000000) :
    Spec Tryz.prog 15 [.slice a l.length ca, .slice b l.length cb] H (X := Unit) (fun _ => .bool true) (fun _ => True) (fun _ => H) := by
  have h := sameR H a b l l ca cb rfl rfl hl
  rwa [show decide (l = l) = true from decide_eq_true rfl] at h
theorem toldOf_len {s : Cs} {n : Nat} (ok : CsOk s n) (t : Int) : (toldOf s t).length ≤ n := by
  unfold toldOf
  cases h : s.told[t.toNat]? with
  | none => exact Nat.zero_le _
  | some l => exact ok.told l (List.mem_of_getElem? h)
set_option maxRecDepth 100000 in
set_option maxHeartbeats 32000000 in
theorem topAlike {X H : HP} (b1 b2 : Nat) (s1 s2 : Cs) [t : Take (CO b1 s1 * CO b2 s2) X H] {n : Nat} (ok1 : CsOk s1 n) (ok2 : CsOk s2 n) (hn : n ≤ 640) (hs : Sim s1 s2) :
    Spec Tryz.prog 33 [.pointer (some ⟨b1, 0, none⟩), .pointer (some ⟨b2, 0, none⟩)] X (X := Unit) (fun _ => .bool true) (fun _ => True) (fun _ => X) := by
  rw [t.eq, sep_assoc]
  have ht1 := fun (X' H' : HP) (h : Take (CO b1 s1) X' H') => coTicks b1 s1 (t := h)
  have ht2 := fun (X' H' : HP) (h : Take (CO b2 s2) X' H') => coTicks b2 s2 (t := h)
  rw [← hs.ticks] at ht2
  have hdt : (s1.ticks != s1.ticks) = false := by simp
  refine spec_of Tryz.func33 rfl Tryz.ntmps33 rfl ?_
  repeat' (first | (refine rG 0 [0, 1] ?_; ((try (refine wK ?_; intro _)))) | (refine rG 1 [0, 1, 12] ?_; ((try refine wO ?_) <;> (try ((refine o_callH (ht1 _ _ inferInstance) (by first | exact True.intro | (show _ < _; decide)) rfl rfl (fun _ _ => ?_)))) <;> (try refine wO ?_) <;> (try ((refine o_callH (ht2 _ _ inferInstance) (by first | exact True.intro | (show _ < _; decide)) rfl rfl (fun _ _ => ?_)))) <;> (try (refine wK ?_; intro _)))) | (refine rG 3 [0, 1, 13] ?_; ((try (refine wK ?_; intro _)))) | refine wC ?_ | (refine ex_split rfl ?_ ?_ <;> intro hc))
  refine ex_loopE (fun mm e H' => ∃ g, ∃ j : Nat, e = put (put (put g 0 (.pointer (some ⟨b1, 0, none⟩))) 1 (.pointer (some ⟨b2, 0, none⟩))) 13 (.int .i64 (j : Int)) ∧
    H' = CO b1 s1 * (CO b2 s2 * H) ∧ j ≤ 8 ∧ mm = 8 - j) (m := 8) ⟨_, 0, rfl, rfl, by omega, rfl⟩ ?_ ?_
  · exact Ent.refl _
  · rintro mm e H' ⟨g, j, rfl, rfl, hj, rfl⟩
    by_cases hlt : j < 8
    · have hd : decide ((j : Int) < 8) = true := decide_eq_true (by omega)
      have ei : IntKind.i64.wrap ((j : Int) + 1) = ((j + 1 : Nat) : Int) := by rw [IntKind.wrap_i64]; omega
      have hI1 : cellI s1 (j : Int) = cell s1 j := by unfold cellI; rw [if_pos (by omega), Int.toNat_natCast]
      have hI2 : cellI s2 (j : Int) = cell s2 j := by unfold cellI; rw [if_pos (by omega), Int.toNat_natCast]
      have hte : toldOf s2 (j : Int) = toldOf s1 (j : Int) := by unfold toldOf; rw [hs.told]
      have hl1 := toldOf_len ok1 (j : Int)
      have hl2 := toldOf_len ok2 (j : Int)
      have htd1 := fun (X' H' : HP) (h : Take (CO b1 s1) X' H') => topTold b1 s1 (j : Int) (t := h) ok1 (by omega) (by omega) (by omega)
      have htd2 := fun (X' H' : HP) (h : Take (CO b2 s2) X' H') => topTold b2 s2 (j : Int) (t := h) ok2 (by omega) (by omega) (by omega)
      rw [hte] at htd2
      generalize toldOf s1 (j : Int) = T at *
      rcases hs.cells j hlt with ⟨hc1, hc2⟩ | ⟨c, d, hc1, hc2, hcd⟩
      · have hn1 := fun (X' H' : HP) (h : Take (CO b1 s1) X' H') => coCellN b1 s1 (j : Int) (t := h) (hI1.trans hc1)
        have hn2 := fun (X' H' : HP) (h : Take (CO b2 s2) X' H') => coCellN b2 s2 (j : Int) (t := h) (hI2.trans hc2)
        repeat' (first | (refine rG 4 [0, 1, 13, 14] ?_; ((try (refine wK ?_; intro _)))) | (refine rG 5 [0, 1, 5, 13] ?_; ((try (refine wK ?_; intro _)))) | (refine rG 6 [0, 1, 5, 6, 7, 13] ?_; ((try refine wO ?_) <;> (try ((refine o_callH (hn1 _ _ inferInstance) (by first | exact True.intro | (show _ < _; decide)) rfl rfl (fun _ _ => ?_)))) <;> (try refine wO ?_) <;> (try ((refine o_callH (hn2 _ _ inferInstance) (by first | exact True.intro | (show _ < _; decide)) rfl rfl (fun _ _ => ?_)))) <;> (try (refine wK ?_; intro _)))) | refine wC ?_ | (refine ex_split rfl ?_ ?_ <;> intro hc))
        repeat' (first | (refine rG 7 [0, 1, 6, 7, 13, 36] ?_; ((try refine wO ?_) <;> (try (refine o_neB (by decide) rfl rfl Tryz.underlying4 ?_)) <;> (try refine wO ?_) <;> (repeat' (refine g_split rfl (by decide) rfl (by decide) ?_ ?_ <;> intro hc <;> (try refine wO ?_))) <;> (try ((refine o_callH (htd1 _ _ inferInstance) (by first | exact True.intro | (show _ < _; decide)) rfl rfl (fun y1 _ => ?_)))) <;> (try refine wO ?_) <;> (repeat' (refine g_split rfl (by decide) rfl (by decide) ?_ ?_ <;> intro hc <;> (try refine wO ?_))) <;> (try ((refine o_callH (htd2 _ _ inferInstance) (by first | exact True.intro | (show _ < _; decide)) rfl rfl (fun y2 _ => ?_)))) <;> (try refine wO ?_) <;> (repeat' (refine g_split rfl (by decide) rfl (by decide) ?_ ?_ <;> intro hc <;> (try refine wO ?_))) <;> (try ((refine o_callH (sameLT _ _ _ T _ _ (by omega)) (by first | exact True.intro | (show _ < _; decide)) rfl rfl (fun _ _ => ?_)))) <;> (try refine wO ?_) <;> (repeat' (refine g_split rfl (by decide) rfl (by decide) ?_ ?_ <;> intro hc <;> (try refine wO ?_))) <;> (try (refine wK ?_; intro _)))) | refine wC ?_ | (refine ex_split rfl ?_ ?_ <;> intro hc))
        repeat' (first | (refine rA 9 [0, 1, 13, 73] 37 ?_; (refine os_all ?_); ((refine lQ 0 ?_; ((refine lC (v := ?_) 1 ?_ ?_; rotate_left; (focus ((refine o_nePN (by decide) rfl (by kernel_rfl) ?_) <;> exact lL)); ((refine lQ 2 ?_; ((refine lQ 3 ?_; ((refine lQ 4 ?_; ((refine lQ 5 ?_; ((refine lQ 6 ?_; ((refine lQ 8 ?_; ((refine lQ 9 ?_; ((refine lQ 10 ?_; ((refine lQ 11 ?_; ((refine oN 7 ?_ <;> (first | refine g_no rfl (by decide) rfl (by decide) ?_ | refine g_undef rfl rfl (by decide) ?_ | (refine g_yes rfl (by decide) rfl ?_; (skip)) | refine g_noF rfl (by decide) rfl (by assumption) (by decide) ?_ | (refine g_yesT rfl (by decide) rfl (by assumption) ?_; (skip)) | ((refine g_split rfl (by decide) rfl (by decide) ?_ ?_ <;> intro hc); (skip))) <;> (refine os_nil ?_) <;> ((refine oN 12 ?_ <;> (first | refine g_no rfl (by decide) rfl (by decide) ?_ | refine g_undef rfl rfl (by decide) ?_ | (refine g_yes rfl (by decide) rfl ?_; (skip)) | refine g_noF rfl (by decide) rfl (by assumption) (by decide) ?_ | (refine g_yesT rfl (by decide) rfl (by assumption) ?_; (skip)) | ((refine g_split rfl (by decide) rfl (by decide) ?_ ?_ <;> intro hc); (skip))) <;> (refine os_nil ?_) <;> ((refine oN 13 ?_ <;> (first | refine g_no rfl (by decide) rfl (by decide) ?_ | refine g_undef rfl rfl (by decide) ?_ | (refine g_yes rfl (by decide) rfl ?_; (skip)) | refine g_noF rfl (by decide) rfl (by assumption) (by decide) ?_ | (refine g_yesT rfl (by decide) rfl (by assumption) ?_; (skip)) | ((refine g_split rfl (by decide) rfl (by decide) ?_ ?_ <;> intro hc); (skip))) <;> (refine os_nil ?_) <;> ((refine lQ 14 ?_; ((refine lQ 15 ?_; ((refine lQ 16 ?_; ((refine lQ 18 ?_; ((refine oN 17 ?_ <;> (first | refine g_no rfl (by decide) rfl (by decide) ?_ | refine g_undef rfl rfl (by decide) ?_ | (refine g_yes rfl (by decide) rfl ?_; (skip)) | refine g_noT rfl (by decide) rfl (by assumption) (by decide) ?_ | (refine g_yesF rfl (by decide) rfl (by assumption) ?_; (skip)) | ((refine g_split rfl (by decide) rfl (by decide) ?_ ?_ <;> intro hc); (skip))) <;> (refine os_nil ?_) <;> ((refine oN 19 ?_ <;> (first | refine g_no rfl (by decide) rfl (by decide) ?_ | refine g_undef rfl rfl (by decide) ?_ | (refine g_yes rfl (by decide) rfl ?_; (skip)) | refine g_noT rfl (by decide) rfl (by assumption) (by decide) ?_ | (refine g_yesF rfl (by decide) rfl (by assumption) ?_; (skip)) | ((refine g_split rfl (by decide) rfl (by decide) ?_ ?_ <;> intro hc); (skip))) <;> (refine os_nil ?_) <;> ((refine oN 20 ?_ <;> (first | refine g_no rfl (by decide) rfl (by decide) ?_ | refine g_undef rfl rfl (by decide) ?_ | (refine g_yes rfl (by decide) rfl ?_; (skip)) | refine g_noT rfl (by decide) rfl (by assumption) (by decide) ?_ | (refine g_yesF rfl (by decide) rfl (by assumption) ?_; (skip)) | ((refine g_split rfl (by decide) rfl (by decide) ?_ ?_ <;> intro hc); (skip))) <;> (refine os_nil ?_) <;> ((refine lQ 21 ?_; ((refine lQ 22 ?_; ((refine lQ 23 ?_; ((refine lQ 24 ?_; ((refine lQ 25 ?_; ((refine lQ 26 ?_; ((refine lQ 27 ?_; ((refine lQ 29 ?_; ((refine lQ 30 ?_; ((refine lQ 31 ?_; ((refine lQ 32 ?_; ((refine oN 28 ?_ <;> (first | refine g_no rfl (by decide) rfl (by decide) ?_ | refine g_undef rfl rfl (by decide) ?_ | (refine g_yes rfl (by decide) rfl ?_; (skip)) | refine g_noT rfl (by decide) rfl (by assumption) (by decide) ?_ | (refine g_yesF rfl (by decide) rfl (by assumption) ?_; (skip)) | ((refine g_split rfl (by decide) rfl (by decide) ?_ ?_ <;> intro hc); (skip))) <;> (refine os_nil ?_) <;> ((refine oN 33 ?_ <;> (first | refine g_no rfl (by decide) rfl (by decide) ?_ | refine g_undef rfl rfl (by decide) ?_ | (refine g_yes rfl (by decide) rfl ?_; (skip)) | refine g_noT rfl (by decide) rfl (by assumption) (by decide) ?_ | (refine g_yesF rfl (by decide) rfl (by assumption) ?_; (skip)) | ((refine g_split rfl (by decide) rfl (by decide) ?_ ?_ <;> intro hc); (skip))) <;> (refine os_nil ?_) <;> ((refine lQ 34 ?_; ((refine lQ 35 ?_; ((refine lQ 36 ?_; ((refine dK ?_; intro _))))))))))))))))))))))))))))))))))))))))))))))))))))))))))))))))))))))))))))) | (refine rG 11 [0, 1, 13] ?_; ((try (refine wK ?_; intro _)))) | refine wC ?_ | (refine ex_split rfl ?_ ?_ <;> intro hc))
        rw [ei]
        refine ⟨8 - (j + 1), by omega, _, ?_, _, j + 1, rfl, rfl, by omega, rfl⟩
        exact ent_take
      · have k1 := (ok1.cell j c hc1).1.ins
        have hn1 := fun (X' H' : HP) (h : Take (CO b1 s1) X' H') => coCellS b1 s1 (j : Int) (t := h) ok1 (by omega) (hI1.trans hc1)
        have hn2 := fun (X' H' : HP) (h : Take (CO b2 s2) X' H') => coCellS b2 s2 (j : Int) (t := h) ok2 (by omega) (hI2.trans hc2)
        obtain ⟨le, sp1, re1, q, run1, id1, rows1, taken⟩ := c
        obtain ⟨le2, sp2, re2, q2, run2, id2, rows2, taken2⟩ := d
        obtain ⟨e1, e2, e3⟩ := hcd
        simp only at e1 e2 e3
        subst e1; subst e2; subst e3
        simp only at k1
        have hll : (le != le) = false := by simp
        repeat' (first | (refine rG 4 [0, 1, 13, 14] ?_; ((try (refine wK ?_; intro _)))) | (refine rG 5 [0, 1, 5, 13] ?_; ((try (refine wK ?_; intro _)))) | (refine rG 6 [0, 1, 5, 6, 7, 13] ?_; ((try refine wO ?_) <;> (try ((refine o_callH (hn1 _ _ inferInstance) (by first | exact True.intro | (show _ < _; decide)) rfl rfl (fun cb1 _ => ?_)))) <;> (try refine wO ?_) <;> (try ((refine o_callH (hn2 _ _ inferInstance) (by first | exact True.intro | (show _ < _; decide)) rfl rfl (fun cb2 _ => ?_)))) <;> (try (refine wK ?_; intro _)))) | refine wC ?_ | (refine ex_split rfl ?_ ?_ <;> intro hc))
        repeat' (first | (refine rG 7 [0, 1, 6, 7, 13, 36] ?_; ((try refine wO ?_) <;> (try (refine o_neB (by decide) rfl rfl Tryz.underlying4 ?_)) <;> (try refine wO ?_) <;> (repeat' (refine g_split rfl (by decide) rfl (by decide) ?_ ?_ <;> intro hc <;> (try refine wO ?_))) <;> (try ((refine o_callH (htd1 _ _ inferInstance) (by first | exact True.intro | (show _ < _; decide)) rfl rfl (fun y1 _ => ?_)))) <;> (try refine wO ?_) <;> (repeat' (refine g_split rfl (by decide) rfl (by decide) ?_ ?_ <;> intro hc <;> (try refine wO ?_))) <;> (try ((refine o_callH (htd2 _ _ inferInstance) (by first | exact True.intro | (show _ < _; decide)) rfl rfl (fun y2 _ => ?_)))) <;> (try refine wO ?_) <;> (repeat' (refine g_split rfl (by decide) rfl (by decide) ?_ ?_ <;> intro hc <;> (try refine wO ?_))) <;> (try ((refine o_callH (sameLT _ _ _ T _ _ (by omega)) (by first | exact True.intro | (show _ < _; decide)) rfl rfl (fun _ _ => ?_)))) <;> (try refine wO ?_) <;> (repeat' (refine g_split rfl (by decide) rfl (by decide) ?_ ?_ <;> intro hc <;> (try refine wO ?_))) <;> (try (refine wK ?_; intro _)))) | refine wC ?_ | (refine ex_split rfl ?_ ?_ <;> intro hc))
        refine Ex.ent ?_ (ent_head (CE cb1 ⟨le, sp1, re1, q, run1, id1, rows1, taken⟩))
        refine ex_ce fun rb1 pb1 mb1 oa1 ocp1 qa1 qc1 ra1 rc1 ta1 tc1 _ _ _ => ?_
        refine Ex.ent ?_ (ent_head (CE cb2 ⟨le, sp2, re2, q, run2, id2, rows2, taken⟩))
        refine ex_ce fun rb2 pb2 mb2 oa2 ocp2 qa2 qc2 ra2 rc2 ta2 tc2 _ _ _ => ?_
        repeat' (first | (refine rA 9 [0, 1, 13, 73] 37 ?_; (refine os_all ?_); ((refine lQ 0 ?_; ((refine lC (v := ?_) 1 ?_ ?_; rotate_left; (focus ((refine o_nePN (by decide) rfl (by kernel_rfl) ?_) <;> exact lL)); ((refine lQ 2 ?_; ((refine lQ 3 ?_; ((refine lQ 4 ?_; ((refine lQ 5 ?_; ((refine lC (v := ?_) 6 ?_ ?_; rotate_left; (focus ((first | refine g_no rfl (by decide) rfl (by decide) ?_ | refine g_undef rfl rfl (by decide) ?_ | (refine g_yes rfl (by decide) rfl ?_; (refine o_load_a (vs := [.slice qa1 q.length qc1]) (by decide) rfl rfl ?_)) | refine g_noF rfl (by decide) rfl (by assumption) (by decide) ?_ | (refine g_yesT rfl (by decide) rfl (by assumption) ?_; (refine o_load_a (vs := [.slice qa1 q.length qc1]) (by decide) rfl rfl ?_)) | ((refine g_split rfl (by decide) rfl (by decide) ?_ ?_ <;> intro hc); (refine o_load_a (vs := [.slice qa1 q.length qc1]) (by decide) rfl rfl ?_))) <;> exact lL)); ((refine lQ 8 ?_; ((refine lQ 9 ?_; ((refine lQ 10 ?_; ((refine lC (v := ?_) 11 ?_ ?_; rotate_left; (focus ((first | refine g_no rfl (by decide) rfl (by decide) ?_ | refine g_undef rfl rfl (by decide) ?_ | (refine g_yes rfl (by decide) rfl ?_; (refine o_load_a (vs := [.slice qa2 q.length qc2]) (by decide) rfl rfl ?_)) | refine g_noF rfl (by decide) rfl (by assumption) (by decide) ?_ | (refine g_yesT rfl (by decide) rfl (by assumption) ?_; (refine o_load_a (vs := [.slice qa2 q.length qc2]) (by decide) rfl rfl ?_)) | ((refine g_split rfl (by decide) rfl (by decide) ?_ ?_ <;> intro hc); (refine o_load_a (vs := [.slice qa2 q.length qc2]) (by decide) rfl rfl ?_))) <;> exact lL)); ((refine oN 7 ?_ <;> (first | refine g_no rfl (by decide) rfl (by decide) ?_ | refine g_undef rfl rfl (by decide) ?_ | (refine g_yes rfl (by decide) rfl ?_; ((refine o_callH (queAll _ qa1 q qc1 (by omega)) (by first | exact True.intro | (show _ < _; decide)) rfl rfl (fun y44 _ => ?_)))) | refine g_noF rfl (by decide) rfl (by assumption) (by decide) ?_ | (refine g_yesT rfl (by decide) rfl (by assumption) ?_; ((refine o_callH (queAll _ qa1 q qc1 (by omega)) (by first | exact True.intro | (show _ < _; decide)) rfl rfl (fun y44 _ => ?_)))) | ((refine g_split rfl (by decide) rfl (by decide) ?_ ?_ <;> intro hc); ((refine o_callH (queAll _ qa1 q qc1 (by omega)) (by first | exact True.intro | (show _ < _; decide)) rfl rfl (fun y44 _ => ?_))))) <;> (refine os_nil ?_) <;> ((refine oN 12 ?_ <;> (first | refine g_no rfl (by decide) rfl (by decide) ?_ | refine g_undef rfl rfl (by decide) ?_ | (refine g_yes rfl (by decide) rfl ?_; ((refine o_callH (queAll _ qa2 q qc2 (by omega)) (by first | exact True.intro | (show _ < _; decide)) rfl rfl (fun y49 _ => ?_)))) | refine g_noF rfl (by decide) rfl (by assumption) (by decide) ?_ | (refine g_yesT rfl (by decide) rfl (by assumption) ?_; ((refine o_callH (queAll _ qa2 q qc2 (by omega)) (by first | exact True.intro | (show _ < _; decide)) rfl rfl (fun y49 _ => ?_)))) | ((refine g_split rfl (by decide) rfl (by decide) ?_ ?_ <;> intro hc); ((refine o_callH (queAll _ qa2 q qc2 (by omega)) (by first | exact True.intro | (show _ < _; decide)) rfl rfl (fun y49 _ => ?_))))) <;> (refine os_nil ?_) <;> ((refine oN 13 ?_ <;> (first | refine g_no rfl (by decide) rfl (by decide) ?_ | refine g_undef rfl rfl (by decide) ?_ | (refine g_yes rfl (by decide) rfl ?_; ((refine o_callH (sameIT _ _ _ q _ _ (by omega)) (by first | exact True.intro | (show _ < _; decide)) rfl rfl (fun _ _ => ?_)))) | refine g_noF rfl (by decide) rfl (by assumption) (by decide) ?_ | (refine g_yesT rfl (by decide) rfl (by assumption) ?_; ((refine o_callH (sameIT _ _ _ q _ _ (by omega)) (by first | exact True.intro | (show _ < _; decide)) rfl rfl (fun _ _ => ?_)))) | ((refine g_split rfl (by decide) rfl (by decide) ?_ ?_ <;> intro hc); ((refine o_callH (sameIT _ _ _ q _ _ (by omega)) (by first | exact True.intro | (show _ < _; decide)) rfl rfl (fun _ _ => ?_))))) <;> (refine os_nil ?_) <;> ((refine lQ 14 ?_; ((refine lQ 15 ?_; ((refine lQ 16 ?_; ((refine lQ 18 ?_; ((refine oN 17 ?_ <;> (first | refine g_no rfl (by decide) rfl (by decide) ?_ | refine g_undef rfl rfl (by decide) ?_ | (refine g_yes rfl (by decide) rfl ?_; ((refine o_callH (ceTaken cb1 _ _ _ _ _ _ _ ta1 taken tc1 _ (by omega)) (by first | exact True.intro | (show _ < _; decide)) rfl rfl (fun y54 _ => ?_)))) | refine g_noT rfl (by decide) rfl (by assumption) (by decide) ?_ | (refine g_yesF rfl (by decide) rfl (by assumption) ?_; ((refine o_callH (ceTaken cb1 _ _ _ _ _ _ _ ta1 taken tc1 _ (by omega)) (by first | exact True.intro | (show _ < _; decide)) rfl rfl (fun y54 _ => ?_)))) | ((refine g_split rfl (by decide) rfl (by decide) ?_ ?_ <;> intro hc); ((refine o_callH (ceTaken cb1 _ _ _ _ _ _ _ ta1 taken tc1 _ (by omega)) (by first | exact True.intro | (show _ < _; decide)) rfl rfl (fun y54 _ => ?_))))) <;> (refine os_nil ?_) <;> ((refine oN 19 ?_ <;> (first | refine g_no rfl (by decide) rfl (by decide) ?_ | refine g_undef rfl rfl (by decide) ?_ | (refine g_yes rfl (by decide) rfl ?_; ((refine o_callH (ceTaken cb2 _ _ _ _ _ _ _ ta2 taken tc2 _ (by omega)) (by first | exact True.intro | (show _ < _; decide)) rfl rfl (fun y56 _ => ?_)))) | refine g_noT rfl (by decide) rfl (by assumption) (by decide) ?_ | (refine g_yesF rfl (by decide) rfl (by assumption) ?_; ((refine o_callH (ceTaken cb2 _ _ _ _ _ _ _ ta2 taken tc2 _ (by omega)) (by first | exact True.intro | (show _ < _; decide)) rfl rfl (fun y56 _ => ?_)))) | ((refine g_split rfl (by decide) rfl (by decide) ?_ ?_ <;> intro hc); ((refine o_callH (ceTaken cb2 _ _ _ _ _ _ _ ta2 taken tc2 _ (by omega)) (by first | exact True.intro | (show _ < _; decide)) rfl rfl (fun y56 _ => ?_))))) <;> (refine os_nil ?_) <;> ((refine oN 20 ?_ <;> (first | refine g_no rfl (by decide) rfl (by decide) ?_ | refine g_undef rfl rfl (by decide) ?_ | (refine g_yes rfl (by decide) rfl ?_; ((refine o_callH (sameIT _ _ _ taken _ _ (by omega)) (by first | exact True.intro | (show _ < _; decide)) rfl rfl (fun _ _ => ?_)))) | refine g_noT rfl (by decide) rfl (by assumption) (by decide) ?_ | (refine g_yesF rfl (by decide) rfl (by assumption) ?_; ((refine o_callH (sameIT _ _ _ taken _ _ (by omega)) (by first | exact True.intro | (show _ < _; decide)) rfl rfl (fun _ _ => ?_)))) | ((refine g_split rfl (by decide) rfl (by decide) ?_ ?_ <;> intro hc); ((refine o_callH (sameIT _ _ _ taken _ _ (by omega)) (by first | exact True.intro | (show _ < _; decide)) rfl rfl (fun _ _ => ?_))))) <;> (refine os_nil ?_) <;> ((refine lQ 21 ?_; ((refine lQ 22 ?_; ((refine lQ 23 ?_; ((refine lQ 24 ?_; ((refine lQ 25 ?_; ((refine lQ 26 ?_; ((refine lC (v := ?_) 27 ?_ ?_; rotate_left; (focus ((first | refine g_no rfl (by decide) rfl (by decide) ?_ | refine g_undef rfl rfl (by decide) ?_ | (refine g_yes rfl (by decide) rfl ?_; (refine o_load_a (vs := [.int .i64 le, .int .i64 sp1, .int .i64 re1]) (by decide) rfl rfl ?_)) | refine g_noT rfl (by decide) rfl (by assumption) (by decide) ?_ | (refine g_yesF rfl (by decide) rfl (by assumption) ?_; (refine o_load_a (vs := [.int .i64 le, .int .i64 sp1, .int .i64 re1]) (by decide) rfl rfl ?_)) | ((refine g_split rfl (by decide) rfl (by decide) ?_ ?_ <;> intro hc); (refine o_load_a (vs := [.int .i64 le, .int .i64 sp1, .int .i64 re1]) (by decide) rfl rfl ?_))) <;> exact lL)); ((refine lC (v := ?_) 28 ?_ ?_; rotate_left; (focus ((first | refine g_no rfl (by decide) rfl (by decide) ?_ | refine g_undef rfl rfl (by decide) ?_ | (refine g_yes rfl (by decide) rfl ?_; (refine o_call (quLeft _ _ _) (by first | exact True.intro | (show _ < _; decide)) rfl rfl (fun _ _ => ?_))) | refine g_noT rfl (by decide) rfl (by assumption) (by decide) ?_ | (refine g_yesF rfl (by decide) rfl (by assumption) ?_; (refine o_call (quLeft _ _ _) (by first | exact True.intro | (show _ < _; decide)) rfl rfl (fun _ _ => ?_))) | ((refine g_split rfl (by decide) rfl (by decide) ?_ ?_ <;> intro hc); (refine o_call (quLeft _ _ _) (by first | exact True.intro | (show _ < _; decide)) rfl rfl (fun _ _ => ?_)))) <;> exact lL)); ((refine lQ 29 ?_; ((refine lQ 30 ?_; ((refine lQ 31 ?_; ((refine lC (v := ?_) 32 ?_ ?_; rotate_left; (focus ((first | refine g_no rfl (by decide) rfl (by decide) ?_ | refine g_undef rfl rfl (by decide) ?_ | (refine g_yes rfl (by decide) rfl ?_; (refine o_load_a (vs := [.int .i64 le, .int .i64 sp2, .int .i64 re2]) (by decide) rfl rfl ?_)) | refine g_noT rfl (by decide) rfl (by assumption) (by decide) ?_ | (refine g_yesF rfl (by decide) rfl (by assumption) ?_; (refine o_load_a (vs := [.int .i64 le, .int .i64 sp2, .int .i64 re2]) (by decide) rfl rfl ?_)) | ((refine g_split rfl (by decide) rfl (by decide) ?_ ?_ <;> intro hc); (refine o_load_a (vs := [.int .i64 le, .int .i64 sp2, .int .i64 re2]) (by decide) rfl rfl ?_))) <;> exact lL)); ((refine lC (v := ?_) 33 ?_ ?_; rotate_left; (focus ((first | refine g_no rfl (by decide) rfl (by decide) ?_ | refine g_undef rfl rfl (by decide) ?_ | (refine g_yes rfl (by decide) rfl ?_; (refine o_call (quLeft _ _ _) (by first | exact True.intro | (show _ < _; decide)) rfl rfl (fun _ _ => ?_))) | refine g_noT rfl (by decide) rfl (by assumption) (by decide) ?_ | (refine g_yesF rfl (by decide) rfl (by assumption) ?_; (refine o_call (quLeft _ _ _) (by first | exact True.intro | (show _ < _; decide)) rfl rfl (fun _ _ => ?_))) | ((refine g_split rfl (by decide) rfl (by decide) ?_ ?_ <;> intro hc); (refine o_call (quLeft _ _ _) (by first | exact True.intro | (show _ < _; decide)) rfl rfl (fun _ _ => ?_)))) <;> exact lL)); ((refine lQ 34 ?_; ((refine lQ 35 ?_; ((refine lQ 36 ?_; ((refine dK ?_; intro _))))))))))))))))))))))))))))))))))))))))))))))))))))))))))))))))))))))))))))) | refine wC ?_ | (refine ex_split rfl ?_ ?_ <;> intro hc))
        all_goals
          repeat' (first | (refine rG 11 [0, 1, 13] ?_; ((try (refine wK ?_; intro _)))) | refine wC ?_ | (refine ex_split rfl ?_ ?_ <;> intro hc))
          rw [ei]
          refine ⟨8 - (j + 1), by omega, _, ?_, _, j + 1, rfl, rfl, by omega, rfl⟩
          exact ent_take
    · have hil : j = 8 := by omega
      subst hil
      have hd : decide (((8 : Nat) : Int) < 8) = false := rfl
      repeat' (first | (refine rG 4 [0, 1, 13, 14] ?_; ((try (refine wK ?_; intro _)))) | (refine rG 12 [4] ?_; ((try (refine wK ?_; intro _)))) | refine wC ?_ | (refine ex_split rfl ?_ ?_ <;> intro hc))
      exact fin (.inr rfl) () (resl1 rfl (rv_tmp rfl)) trivial (Ent.refl _)
end Go.Proofs.YtcelailgedndnaaGreatS
namespace Go.Proofs.YtcelailgedndnaaGreatS.R
open Go.Proofs.YtcelailgedndnaaGreatS
open Go.RowKit Go.ChangeShapes Go.WideShapes
set_option linter.unusedVariables false
set_option linter.unusedSimpArgs false
set_option maxRecDepth 100000
/-- A list of ints as an argument bears it: where, what, the room. -/
abbrev Il : Type := Option Addr × List Int × Nat
def il (r : Il) : Value := .slice r.1 r.2.1.length r.2.2
/-- A pipe of numbers. -/
abbrev Pk : Type := Il × Il × Int × Int × Int × Int × Int
def pc (p : Pk) : List Value := [il p.1, il p.2.1, .int .i64 p.2.2.1, .int .i64 p.2.2.2.1, .int .i64 p.2.2.2.2.1, .int .i64 p.2.2.2.2.2.1, .int .i64 p.2.2.2.2.2.2]
def pm (p : Pk) : HP := rs p.1.1 (ints .i64 p.1.2.1) * rs p.2.1.1 (ints .i64 p.2.1.2.1)
theorem list7 {α : Type} {l : List α} (h : l.length = 7) : ∃ a b c d e f g, l = [a, b, c, d, e, f, g] := by
  match l, h with
  | [a, b, c, d, e, f, g], _ => exact ⟨a, b, c, d, e, f, g, rfl⟩
theorem openIl {H : Type} {enc : TypeId × Value → H} {W : World} {base : Nat} {spare : Nat → Bool} {held : Bool} {n : Nat} {cs y} (h : DataW.trod enc Tryz.prog W base spare held n 76 cs = some y) : ∃ r : Il, cs = [il r] ∧ Fits W (rs r.1 (ints .i64 r.2.1)) := by
  rcases open_ints Tryz.underlying76 Tryz.underlying3 (by kernel_rfl) h with ⟨hcs, _⟩ | ⟨x, l, c, zs, hcs, _, hl, hm, hz, hx, hcell, hwz⟩
  · exact ⟨(none, [], 0), hcs, fits_rs fun j v hj => by simp [ints] at hj⟩
  · have hlen : (zs.take l).length = l := by rw [List.length_take]; split at hz <;> omega
    refine ⟨(some x, zs.take l, c), by rw [hcs]; unfold il; simp only; rw [hlen], fits_ints fun i hi => ⟨x, rfl, hcell i hi⟩⟩
theorem openP {H : Type} {enc : TypeId × Value → H} {W : World} {b0 base : Nat} {spare : Nat → Bool} {held : Bool} {v : Value} {d : DataW H} {p : List MemPlace} (hv : Value.okWide Tryz.prog W .any b0 116 v) (h : DataW.Trod enc Tryz.prog W base spare held 116 v d p) :
    ∃ k : Pk, v = .agg (pc k).toArray ∧ Fits W (pm k) := by
  obtain ⟨cs, rfl, hsz⟩ := okWide_struct Tryz.underlying116 hv
  have c3 : Tryz.prog.cellsOf 3 = 1 := by kernel_rfl
  have c36 : Tryz.prog.cellsOf 76 = 1 := by kernel_rfl
  have c42 : Tryz.prog.cellsOf 116 = 7 := by kernel_rfl
  obtain ⟨l⟩ := cs
  obtain ⟨v0, v1, v2, v3, v4, v5, v6, rfl⟩ := list7 (show l.length = 7 from hsz.trans c42)
  obtain ⟨fuel, hf⟩ := h
  obtain ⟨xs, n, _, _, hl, hlen, hfl⟩ := DataW.trod_struct Tryz.underlying116 hf
  obtain ⟨y0, y1, y2, y3, y4, y5, y6, rfl⟩ := list7 (show xs.length = 7 from hlen)
  have h0 := hfl 0 _ rfl
  have h1 := hfl 1 _ rfl
  have h2 := hfl 2 _ rfl
  have h3 := hfl 3 _ rfl
  have h4 := hfl 4 _ rfl
  have h5 := hfl 5 _ rfl
  have h6 := hfl 6 _ rfl
  simp only [List.getElem?_cons_zero, List.getElem?_cons_succ] at h0 h1 h2 h3 h4 h5 h6
  obtain ⟨r0, e0, f0⟩ := openIl h0
  obtain ⟨r1, e1, f1⟩ := openIl h1
  obtain ⟨m2, e2, _, _⟩ := DataW.trod_int Tryz.underlying3 h2
  obtain ⟨m3, e3, _, _⟩ := DataW.trod_int Tryz.underlying3 h3
  obtain ⟨m4, e4, _, _⟩ := DataW.trod_int Tryz.underlying3 h4
  obtain ⟨m5, e5, _, _⟩ := DataW.trod_int Tryz.underlying3 h5
  obtain ⟨m6, e6, _, _⟩ := DataW.trod_int Tryz.underlying3 h6
  simp [Value.cells, c3, c36] at e0 e1 e2 e3 e4 e5 e6
  subst e0; subst e1; subst e2; subst e3; subst e4; subst e5; subst e6
  exact ⟨(r0, r1, m2, m3, m4, m5, m6), rfl, Fits.mul f0 f1⟩
/-- A pipe of numbers is right. -/
theorem pip_ok {L : List (Int × Int)} {z s a k f : Int} (h1 : L.length ≤ 4) (h2 : L.all rt = true) (h3 : plc k = true) (h4 : plc f = true) : pipr L (psize z s) (wn s 1 12) (wn a 1 4) k f = true := by
  have bs := wn_bd s 1 12 (by omega)
  have ba := wn_bd a 1 4 (by omega)
  have e4 : IntKind.i64.wrap (4 * wn s 1 12) = 4 * wn s 1 12 := by rw [IntKind.wrap_i64]; omega
  have bz := wn_bd z (wn s 1 12) (4 * wn s 1 12) (by omega)
  unfold pipr wr psize
  rw [e4]
  generalize wn z (wn s 1 12) (4 * wn s 1 12) = Z at *
  generalize wn s 1 12 = S at *
  generalize wn a 1 4 = A at *
  have e5 : IntKind.i64.wrap (IntKind.i64.wrap (Z + S) - 1) = Z + S - 1 := by rw [IntKind.wrap_i64, IntKind.wrap_i64]; omega
  have q0 : 0 ≤ (Z + S - 1).tdiv S := Int.tdiv_nonneg (by omega) (by omega)
  have q1 : (Z + S - 1).tdiv S < 5 := by
    rw [Int.tdiv_eq_ediv_of_nonneg (by omega)]
    exact Int.ediv_lt_of_lt_mul (by omega) (by omega)
  have e6 : IntKind.i64.wrap ((Z + S - 1).tdiv S) = (Z + S - 1).tdiv S := by rw [IntKind.wrap_i64]; omega
  rw [e5, e6, h2, h3, h4]
  simp
  omega
theorem plc_wn (x : Int) : plc (wn x (-1) 1) = true := by
  have b := wn_bd x (-1) 1 (by omega)
  unfold plc
  generalize wn x (-1) 1 = y at *
  simp
  omega
end Go.Proofs.YtcelailgedndnaaGreatS.R
