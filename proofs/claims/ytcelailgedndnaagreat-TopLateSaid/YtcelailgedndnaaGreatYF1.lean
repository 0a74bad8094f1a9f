/- Contracts of the functions that the statement reaches: the walk of the program by the small logic, part 1: P1, P2, T8p, T8. No condition beyond what each theorem states. -/
import Derived.Test.YtcelailgedndnaaGreatZ8
namespace Go.Proofs.YtcelailgedndnaaGreatS
open Go.RowKit
set_option linter.unusedVariables false
set_option linter.unusedSimpArgs false
/-- What an act may do to a tenant's cell that is there: R holds of each step, and of steps in a row. -/
structure Mv (ss : List Sk) (R : Nat → Cd → Cd → Prop) : Prop where
  refl : ∀ t c, R t c c
  trans : ∀ t a b c, R t a b → R t b c → R t a c
  off : ∀ (t : Nat) room i c, c.id = (t : Int) → R t c (offer room i c).1
  srv : ∀ t n c, R t c (serve n c).1
  fed : ∀ t i k p tick c, ss[i]? = some k → few p k = false → R t c (feed1 k (rel i k p tick) t c)
def RS (R : Nat → Cd → Cd → Prop) (s s' : Cs) : Prop := s'.sinks = s.sinks ∧ ∀ t, (cell s t = none ∧ cell s' t = none) ∨ ∃ c d, cell s t = some c ∧ cell s' t = some d ∧ R t c d
section
variable {R : Nat → Cd → Cd → Prop} {ss : List Sk}
theorem RS.same (m : Mv ss R) {s s' : Cs} (h1 : s'.sinks = s.sinks) (h2 : ∀ t, cell s' t = cell s t) : RS R s s' := ⟨h1, fun t => by
  rw [h2]
  cases h : cell s t with
  | none => exact .inl ⟨rfl, rfl⟩
  | some c => exact .inr ⟨c, c, rfl, rfl, m.refl t c⟩⟩
theorem RS.trans (m : Mv ss R) {a b c : Cs} (h1 : RS R a b) (h2 : RS R b c) : RS R a c := ⟨h2.1.trans h1.1, fun t => by
  rcases h1.2 t with ⟨x1, x2⟩ | ⟨c1, c2, x1, x2, x3⟩
  · rcases h2.2 t with ⟨y1, y2⟩ | ⟨d1, d2, y1, y2, y3⟩
    · exact .inl ⟨x1, y2⟩
    · rw [x2] at y1; cases y1
  · rcases h2.2 t with ⟨y1, y2⟩ | ⟨d1, d2, y1, y2, y3⟩
    · rw [x2] at y1; cases y1
    · rw [x2] at y1
      obtain rfl := Option.some.inj y1
      exact .inr ⟨c1, d2, x1, y2, m.trans t _ _ _ x3 y3⟩⟩
theorem serve1_rs (m : Mv ss R) (t : Nat) (k : Int) (s : Cs) : RS R s (serve1 t k s) := by
  cases hc : cell s t with
  | none => rw [serve1_none hc]; exact RS.same m rfl fun _ => rfl
  | some c =>
    rw [serve1_some hc]
    refine ⟨rfl, fun u => ?_⟩
    rw [cell_set (cell_lt hc)]
    by_cases hu : u = t
    · subst hu
      rw [if_pos rfl]
      exact .inr ⟨c, _, hc, rfl, m.srv _ _ _⟩
    · rw [if_neg hu]
      cases h : cell s u with
      | none => exact .inl ⟨rfl, rfl⟩
      | some d => exact .inr ⟨d, d, rfl, rfl, m.refl u d⟩
theorem fold_rs (m : Mv ss R) {α : Type} (f : Cs → α → Cs) (hf : ∀ s x, s.sinks = ss → RS R s (f s x)) : ∀ (l : List α) (s : Cs), s.sinks = ss → RS R s (l.foldl f s)
  | [], s, _ => RS.same m rfl fun _ => rfl
  | x :: l, s, h => by
    have h1 := hf s x h
    exact h1.trans m (fold_rs m f hf l (f s x) (h1.1.trans h))
theorem tick1_rs (m : Mv ss R) (i : Nat) (s : Cs) (hs : s.sinks = ss) : RS R s (tick1 i s) := by
  unfold tick1
  cases hk : s.sinks[i]? with
  | none => exact RS.same m rfl fun _ => rfl
  | some k =>
    cases hp : s.pots[i]? with
    | none => exact RS.same m rfl fun _ => rfl
    | some p =>
      simp only
      split
      · cases hw : few p.2 k with
        | true => rw [if_pos rfl]; exact RS.same m rfl fun _ => rfl
        | false =>
          rw [if_neg (by simp)]
          refine ⟨rfl, fun t => ?_⟩
          rw [cell_feed]
          show (cell s t = none ∧ (cell s t).map _ = none) ∨ _
          cases h : cell s t with
          | none => exact .inl ⟨rfl, rfl⟩
          | some c => exact .inr ⟨c, _, rfl, (congrArg (Option.map _) h), m.fed t i k p.2 s.ticks c (hs ▸ hk) hw⟩
      · exact RS.same m rfl fun _ => rfl
theorem tickS_rs (m : Mv ss R) (s : Cs) (hs : s.sinks = ss) : RS R s (tickS s) := by
  have h1 : RS R s (serveAll s) := fold_rs m _ (fun x t _ => serve1_rs m t _ x) _ s hs
  have h2 : RS R (serveAll s) { serveAll s with ticks := IntKind.i64.wrap (s.ticks + 1) } := RS.same m rfl fun _ => rfl
  have h3 := h1.trans m h2
  exact h3.trans m (fold_rs m _ (fun x i hx => tick1_rs m i x hx) _ _ (h3.1.trans hs))
/-- What an act does to each tenant's cell. -/
theorem do_step {s : Cs} {n : Nat} (ok : CsOk s n) (m : Mv s.sinks R) (a : Ac) (t : Nat) : (cell s t = none ∧ cell (doS a s).1 t = none) ∨ (∃ c d, cell s t = some c ∧ cell (doS a s).1 t = some d ∧ R t c d) ∨
    (cell s t = none ∧ ∃ p, mayP (t : Int) p s.sinks = true ∧ cell (doS a s).1 t = some (newCd (t : Int) s.qu p)) := by
  have same : ∀ s', (∀ u, cell s' u = cell s u) → (cell s t = none ∧ cell s' t = none) ∨ (∃ c d, cell s t = some c ∧ cell s' t = some d ∧ R t c d) ∨ (cell s t = none ∧ ∃ p, mayP (t : Int) p s.sinks = true ∧ cell s' t = some (newCd (t : Int) s.qu p)) := fun s' h2 => by
    rw [h2]
    cases h : cell s t with
    | none => exact .inl ⟨rfl, rfl⟩
    | some c => exact .inr (.inl ⟨c, c, rfl, rfl, m.refl t c⟩)
  obtain ⟨kd, tn, fr, nn, p, i⟩ := a
  unfold doS
  split
  · show (cell s t = none ∧ cell (register tn p s).1 t = none) ∨ (∃ c d, cell s t = some c ∧ cell (register tn p s).1 t = some d ∧ R t c d) ∨ (cell s t = none ∧ ∃ p', mayP (t : Int) p' s.sinks = true ∧ cell (register tn p s).1 t = some (newCd (t : Int) s.qu p'))
    unfold register
    split
    · exact same _ fun _ => rfl
    · rename_i h7
      have h7 : 0 ≤ tn ∧ tn ≤ 7 := Decidable.not_not.1 h7
      split
      · exact same _ fun _ => rfl
      · rename_i hsome
        split
        · exact same _ fun _ => rfl
        · rename_i hmay
          have hmay : mayP tn p s.sinks = true := by simpa using hmay
          have hcs := cell_set (s := s) (t := tn.toNat) (x := some (newCd tn s.qu p)) (P := s.pots) (by rw [ok.c8]; omega) t
          simp only
          rw [hcs]
          by_cases hu : t = tn.toNat
          · rw [if_pos hu]
            have htn : ((t : Nat) : Int) = tn := by omega
            refine .inr (.inr ⟨?_, p, by rw [htn]; exact hmay, by rw [htn]⟩)
            rw [hu]
            cases hcc : cell s tn.toNat with
            | none => rfl
            | some c => rw [hcc] at hsome; simp at hsome
          · rw [if_neg hu]
            exact same s fun _ => rfl
  · split
    · rcases (tickS_rs m s rfl).2 t with h | h
      · exact .inl h
      · exact .inr (.inl h)
    · split
      · exact same _ fun _ => rfl
      · split
        · exact same _ fun _ => rfl
        · cases hc : cellI s tn with
          | none => exact same s fun _ => rfl
          | some c =>
            simp only [hc]
            split
            · have h7 : 0 ≤ tn ∧ tn ≤ 7 := by
                unfold cellI at hc
                split at hc
                · assumption
                · cases hc
              have hc' : cell s tn.toNat = some c := by
                unfold cellI at hc
                rwa [if_pos h7] at hc
              have hcs := cell_set (s := s) (t := tn.toNat) (x := some (offer s.ro i c).1) (P := s.pots) (by rw [ok.c8]; omega) t
              simp only
              rw [hcs]
              by_cases hu : t = tn.toNat
              · rw [if_pos hu, hu, hc']
                exact .inr (.inl ⟨c, _, rfl, rfl, m.off _ _ _ _ (ok.cell _ _ hc').2.2⟩)
              · rw [if_neg hu]
                exact same s fun _ => rfl
            · exact same s fun _ => rfl
end
/-! ### The rows are what the pipe makes of what was taken -/
theorem rnTake_app (r : Ru) (l m : List In) : rnTake r (l ++ m) = ((rnTake (rnTake r l).1 m).1, (rnTake r l).2 ++ (rnTake (rnTake r l).1 m).2) := by
  refine snoc_ind (P := fun m => rnTake r (l ++ m) = ((rnTake (rnTake r l).1 m).1, (rnTake r l).2 ++ (rnTake (rnTake r l).1 m).2)) ?_ (fun m i ih => ?_) m
  · rw [List.append_nil]; show _ = ((rnTake r l).1, (rnTake r l).2 ++ []); rw [List.append_nil]
  · rw [← List.append_assoc, rnTake_snoc, ih, rnTake_snoc, List.append_assoc]
def Tel (c : Cd) : Prop := rnTake (newRu c.run.pp) c.taken = (c.run, c.rows)
theorem tel_new (id most : Int) (p : Pp) : Tel (newCd id most p) := rfl
theorem tel_serve {c : Cd} (h : Tel c) (n : Int) : Tel (serve n c).1 := by
  unfold Tel at *
  rw [serve_pp]
  show rnTake (newRu c.run.pp) (c.taken ++ c.q.take (pk n c.q.length)) = _
  rw [rnTake_app, h]
  rfl
theorem feed1_q (k : Sk) (r : Bd.Rl) (t : Nat) (c : Cd) : (feed1 k r t c).run = c.run ∧ (feed1 k r t c).taken = c.taken ∧ (feed1 k r t c).rows = c.rows := by
  unfold feed1 feedC
  split
  · split <;> exact ⟨rfl, rfl, rfl⟩
  · exact ⟨rfl, rfl, rfl⟩
theorem offer_q (room : Int) (i : In) (c : Cd) : (offer room i c).1.run = c.run ∧ (offer room i c).1.taken = c.taken ∧ (offer room i c).1.rows = c.rows := by
  unfold offer refuse
  split
  · exact ⟨rfl, rfl, rfl⟩
  · split
    · exact ⟨rfl, rfl, rfl⟩
    · split <;> exact ⟨rfl, rfl, rfl⟩
def Gw (t : Nat) (c d : Cd) : Prop := (Tel c → Tel d) ∧ ∃ r, d.rows = c.rows ++ r
theorem gw_mv (ss : List Sk) : Mv ss Gw where
  refl := fun t c => ⟨id, [], (List.append_nil _).symm⟩
  trans := fun t a b c ⟨h1, r1, e1⟩ ⟨h2, r2, e2⟩ => ⟨fun h => h2 (h1 h), r1 ++ r2, by rw [e2, e1, List.append_assoc]⟩
  off := fun t room i c _ => by
    obtain ⟨e1, e2, e3⟩ := offer_q room i c
    exact ⟨fun h => by unfold Tel at *; rw [e1, e2, e3]; exact h, [], by rw [e3, List.append_nil]⟩
  srv := fun t n c => ⟨fun h => tel_serve h n, _, rfl⟩
  fed := fun t i k p tick c _ _ => by
    obtain ⟨e1, e2, e3⟩ := feed1_q k (rel i k p tick) t c
    exact ⟨fun h => by unfold Tel at *; rw [e1, e2, e3]; exact h, [], by rw [e3, List.append_nil]⟩
/-- Each tenant's rows are told by what it took. -/
def TelS (s : Cs) : Prop := ∀ t c, cell s t = some c → Tel c
theorem tel_do {s : Cs} {n : Nat} (ok : CsOk s n) (h : TelS s) (a : Ac) : TelS (doS a s).1 := fun t d hd => by
  rcases do_step ok (gw_mv s.sinks) a t with ⟨_, h2⟩ | ⟨c, d', h1, h2, h3⟩ | ⟨_, p, _, h2⟩
  · rw [h2] at hd; cases hd
  · rw [h2] at hd; obtain rfl := Option.some.inj hd; exact h3.1 (h t c h1)
  · rw [h2] at hd; obtain rfl := Option.some.inj hd; exact tel_new _ _ _
end Go.Proofs.YtcelailgedndnaaGreatS
namespace Go.Proofs.YtcelailgedndnaaGreatS
open Go.RowKit
set_option linter.unusedVariables false
set_option linter.unusedSimpArgs false
theorem CdOk.rle {c : Cd} {n : Nat} (h : CdOk c n) : c.rows.length ≤ 8 * n := by
  have := h.pan
  have := h.ins
  omega
theorem CsOk.rle {s : Cs} {n : Nat} (h : CsOk s n) (t : Int) : (rowsOf s t).length ≤ 8 * n := by
  unfold rowsOf
  cases hc : cellI s t with
  | none => exact Nat.zero_le _
  | some c =>
    unfold cellI at hc
    split at hc
    · exact (h.cell _ _ hc).1.rle
    · cases hc
theorem cell_new (bu ro qu : Int) (l : List Sk) (t : Nat) : cell (newCs bu ro qu l) t = none := by
  unfold cell newCs
  simp only [List.getElem?_replicate]
  split <;> rfl
theorem cellI_nat {s : Cs} {t : Int} (h : 0 ≤ t ∧ t ≤ 7) : cellI s t = cell s t.toNat := by unfold cellI; rw [if_pos h]
theorem rdc_Ko {X H K : HP} {oa : Option Addr} {c : List Value} (hK : RdP K oa c) [t : Take K X H] : RdC X oa c := by
  rw [t.eq]
  exact ⟨hK.left H⟩
set_option linter.unusedVariables false
set_option linter.unusedSimpArgs false
attribute [local irreducible] Ops Ex Spec T V QO OA Rn OS
set_option maxHeartbeats 8000000 in
theorem wholeRows (H : HP) (p : Pp) (a : Option Addr) (cap : Nat) (ia : Option Addr) (l : List In) (ic : Nat) [hr : RdC H a (p.1.flatMap oc)] [hi : RdC H ia (l.flatMap inc)] (hp : pir p = true) (hn : 8 * l.length ≤ 100000) :
    Spec Tryz.prog 26 [.agg (ppc a cap p).toArray, .slice ia l.length ic] H (X := Option Addr × Nat) (fun y => .slice y.1 (rnTake (newRu p) l).2.length y.2) (fun y => (rnTake (newRu p) l).2.length ≤ y.2)
      (fun y => ow 67 5 y.1 (rnTake (newRu p) l).2.length y.2 ((rnTake (newRu p) l).2.flatMap rwc) * H) := by
  have hl6 := pir_len hp
  have hnew := fun (H' : HP) (h : RdC H' a (p.1.flatMap oc)) => ruNew H' p a cap (hr := h) hp (by omega)
  have hok : RuOk (newRu p) 0 := ⟨by show p.1.length ≤ 100; omega, by show (([] : Pm).map (·.1)).Nodup; simp, Nat.le_refl _⟩
  have htk := fun (rb pb mb : Nat) (oa : Option Addr) (ocp : Nat) (X' H' : HP) (h : Take (RR rb pb mb oa ocp (newRu p)) X' H') (h2 : RdC H' ia (l.flatMap inc)) => ruTake rb pb mb oa ocp (newRu p) ia l ic (t := h) (hr := h2) hok (by omega)
  refine spec_of Tryz.func26 rfl Tryz.ntmps26 rfl ?_
  repeat' (first | (refine rG 0 [1, 2] ?_; ((try ((refine o_box (by decide) (v := .agg (ppc a cap p).toArray) rfl rfl (fun b2 => ?_)))) <;> (try (refine wK ?_; intro _)))) | (refine ex_regk (id := 1) (ts := [1, 5]) ?_; ((try (refine o_load_a (vs := ppc a cap p) (by decide) rfl rfl ?_)) <;> (try ((refine o_callH (hnew _ inferInstance) (by first | exact True.intro | (show _ < _; decide)) rfl rfl (fun y _ => ?_); obtain ⟨rb, pb, mb, oa, ocp⟩ := y))) <;> (try (first | refine o_as (v := .pointer _) (by decide) rfl ?_ | refine o_as (by decide) rfl ?_)) <;> (try (refine ops_nilk ?_; intro _)) <;> (try ((first | refine keep_cons (v := .slice _ _ _) rfl ?_ | refine keep_cons (v := _) rfl ?_) <;> (first | refine keep_cons (v := .pointer _) rfl ?_ | refine keep_cons (v := _) rfl ?_))) <;> (try refine keep_nil ?_))) | (refine rG 2 [1, 5, 9] ?_; ((try (refine wK ?_; intro _)))) | refine wC ?_ | (refine ex_split rfl ?_ ?_ <;> intro hc))
  repeat' (first | (refine rG 4 [4] ?_; ((try refine wO ?_) <;> (try ((refine o_callH (htk rb pb mb oa ocp _ _ inferInstance inferInstance) (by first | exact True.intro | (show _ < _; decide)) rfl rfl (fun y hy => ?_); obtain ⟨ya, yc⟩ := y))) <;> (try (refine wK ?_; intro _)))) | refine wC ?_ | (refine ex_split rfl ?_ ?_ <;> intro hc))
  refine fin (.inr rfl) (ya, yc) (resl1 rfl (rv_tmp rfl)) hy ?_
  exact ent_take
theorem wholePrefix (H : HP) (a b : Option Addr) (l r : List Rw) (ca cb : Nat) [ha : RdC H a (l.flatMap rwc)] [hb : RdC H b ((l ++ r).flatMap rwc)] (hc : (l ++ r).length ≤ cb) (hl : l.length ≤ 1000000) :
    Spec Tryz.prog 34 [.slice a l.length ca, .slice b (l ++ r).length cb] H (X := Unit) (fun _ => .bool true) (fun _ => True) (fun _ => H) := by
  have hd : decide ((l.length : Int) ≤ ((l ++ r).length : Int)) = true := decide_eq_true (by rw [List.length_append]; omega)
  have hlr : l.length ≤ (l ++ r).length := by rw [List.length_append]; omega
  have htk : (l ++ r).take l.length = l := by simp
  have hq := fun (b' : Option Addr) (cb' : Nat) (h : RdC H b' (((l ++ r).take l.length).flatMap rwc)) => sameQ H a b' l ((l ++ r).take l.length) ca cb' (hb := h) rfl rfl hl
  rw [htk, decide_eq_true rfl] at hq
  refine spec_of Tryz.func34 rfl Tryz.ntmps34 rfl ?_
  repeat' (first | (refine rG 0 [0, 1] ?_; ((try (refine wK ?_; intro _)))) | (refine rG 1 [4] ?_; ((try refine wO ?_) <;> (repeat' (refine g_split rfl (by decide) rfl (by decide) ?_ ?_ <;> intro hc <;> (try refine wO ?_))) <;> (try ((refine o_takeT (cells := rwc) (xs := l ++ r) (t := l.length) rwc_len (by decide) rfl rfl rfl hlr hc (fun b' hb' => ?_); rw [htk] at hb' ⊢))) <;> (try refine wO ?_) <;> (repeat' (refine g_split rfl (by decide) rfl (by decide) ?_ ?_ <;> intro hc <;> (try refine wO ?_))) <;> (try (refine o_callH (hq _ _ (hb' _)) (by first | exact True.intro | (show _ < _; decide)) rfl rfl (fun _ _ => ?_))) <;> (try (refine wK ?_; intro _)))) | refine wC ?_ | (refine ex_split rfl ?_ ?_ <;> intro hc))
  exact fin (.inr rfl) () (resl1 rfl (rv_tmp rfl)) trivial (Ent.refl _)
end Go.Proofs.YtcelailgedndnaaGreatS
namespace Go.Proofs.YtcelailgedndnaaGreatS
open Go.RowKit
set_option linter.unusedVariables false
set_option linter.unusedSimpArgs false
/-! The script of what comes late, by itself. -/
def pL : Pp := ([], 5, 5, 1, -1, -1)
def cellSt (s : Cs) (n : Nat) (bu ro : Int) (c1 c2 : Option Cd) : Prop := CsOk s n ∧ s.bu = bu ∧ s.ro = ro ∧ s.qu = 50 ∧ cell s 1 = c1 ∧ cell s 2 = c2
theorem mayL (t : Int) (ht : 0 ≤ t ∧ t < 8) (ss : List Sk) : mayP t pL ss = true := by
  unfold mayP pL R.mayF
  show (((decide (t ≥ 0) && decide (t < 8)) && R.pipr [] 5 5 1 (-1) (-1)) && R.inF (·.1) t (-1) ss && R.inF (·.2.1) t (-1) ss) = true
  have h1 : R.inF (·.1) t (-1) ss = true := rfl
  have h2 : R.inF (·.2.1) t (-1) ss = true := rfl
  have h3 : R.pipr [] 5 5 1 (-1) (-1) = true := by decide
  rw [h1, h2, h3, decide_eq_true ht.1, decide_eq_true ht.2]
  rfl
theorem reg_ans {s : Cs} {n : Nat} (ok : CsOk s n) (t : Nat) (ht : t < 8) (hc : cell s t = none) : (doS (1, (t : Int), 0, 0, pL, z0) s).2 = (0, [], []) ∧ ∀ u, cell (doS (1, (t : Int), 0, 0, pL, z0) s).1 u = if u = t then some (newCd (t : Int) s.qu pL) else cell s u := by
  have hr : register (t : Int) pL s = ({ s with cells := s.cells.set t (some (newCd (t : Int) s.qu pL)) }, 0) := by
    unfold register
    rw [if_neg (by omega), Int.toNat_natCast, if_neg (by rw [hc]; simp), if_neg (by rw [mayL _ (by omega)]; simp)]
  have hd : doS (1, (t : Int), 0, 0, pL, z0) s = ((register (t : Int) pL s).1, (register (t : Int) pL s).2, [], []) := by
    unfold doS
    rw [if_pos rfl]
  rw [hd, hr]
  exact ⟨rfl, fun u => cell_set (P := s.pots) (by rw [ok.c8]; exact ht) u⟩
theorem off_ans {s : Cs} {n : Nat} (ok : CsOk s n) (t : Nat) (ht : t < 8) {c : Cd} (hc : cell s t = some c) (i : In) (hi : (ownI (t : Int) i).2 = true) (hl : c.left ≠ 0) (hq : (c.q.length : Int) + 1 ≤ s.ro) :
    (doS (2, (t : Int), 0, 0, p0, i) s).2 = (0, [], []) ∧ ∀ u, cell (doS (2, (t : Int), 0, 0, p0, i) s).1 u = if u = t then some { c with q := c.q ++ [(ownI (t : Int) i).1], left := c.left - 1, spent := IntKind.i64.wrap (c.spent + 1) } else cell s u := by
  have hid := (ok.cell _ _ hc).2.2
  have ho : offer s.ro i c = ({ c with q := c.q ++ [(ownI (t : Int) i).1], left := c.left - 1, spent := IntKind.i64.wrap (c.spent + 1) }, 0) := by
    unfold offer
    rw [hid, if_neg (by rw [hi]; simp), if_neg hl, if_neg (by omega)]
  have hd : doS (2, (t : Int), 0, 0, p0, i) s = ({ s with cells := s.cells.set t (some (offer s.ro i c).1) }, (offer s.ro i c).2, [], []) := by
    unfold doS
    rw [if_neg (show ¬ ((2 : Int) = 1) by decide), if_neg (show ¬ ((2 : Int) = 3) by decide), if_neg (show ¬ ((2 : Int) = 5) by decide), if_neg (show ¬ ((2 : Int) ≠ 2 ∧ (2 : Int) ≠ 4) by decide)]
    show (match cellI s (t : Int) with | none => _ | some c => _) = _
    rw [show cellI s (t : Int) = some c by unfold cellI; rw [if_pos (by omega), Int.toNat_natCast]; exact hc]
    simp only [if_pos, Int.toNat_natCast]
  rw [hd, ho]
  exact ⟨rfl, fun u => cell_set (P := s.pots) (by rw [ok.c8]; exact ht) u⟩
theorem serveL_cell (f : Nat → Int) : ∀ (L : List Nat) (s : Cs) (u : Nat), L.Nodup → cell (L.foldl (fun x t => serve1 t (f t) x) s) u = if u ∈ L then (cell s u).map (fun c => (serve (f u) c).1) else cell s u
  | [], s, u, _ => by simp
  | t :: L, s, u, hn => by
    have hn := List.nodup_cons.1 hn
    rw [List.foldl_cons, serveL_cell f L _ u hn.2]
    have h1 : cell (serve1 t (f t) s) u = if u = t then (cell s u).map (fun c => (serve (f u) c).1) else cell s u := by
      cases hc : cell s t with
      | none =>
        rw [serve1_none hc]
        split
        · rename_i h; subst h; rw [hc]; rfl
        · rfl
      | some c =>
        rw [serve1_some hc, cell_set (cell_lt hc)]
        split
        · rename_i h; subst h; rw [hc]; rfl
        · rfl
    rw [h1]
    by_cases hu : u = t
    · subst hu
      rw [if_neg hn.1, if_pos rfl, if_pos (List.mem_cons_self ..)]
    · rw [if_neg hu]
      by_cases hm : u ∈ L
      · rw [if_pos hm, if_pos (List.mem_cons_of_mem _ hm)]
      · rw [if_neg hm, if_neg (by simp [hu, hm])]
theorem mem_order {tick : Int} (h : 0 ≤ tick) (t : Nat) (ht : t < 8) : t ∈ order tick := by
  unfold order
  rw [if_neg (by omega)]
  have hk : tick.toNat % 8 < 8 := Nat.mod_lt _ (by decide)
  generalize tick.toNat % 8 = k at *
  exact List.mem_map.2 ⟨(t + 8 - k) % 8, List.mem_range.2 (Nat.mod_lt _ (by decide)), by omega⟩
theorem tick1_cell (i : Nat) (s : Cs) (t : Nat) (h : ∀ c, cell s t = some c → c.run.pp.2.2.2.2.2 = -1) : cell (tick1 i s) t = cell s t := by
  unfold tick1
  cases hk : s.sinks[i]? with
  | none => rfl
  | some k =>
    cases hp : s.pots[i]? with
    | none => rfl
    | some p =>
      simp only
      split
      · split
        · rfl
        · rw [cell_feed]
          show (cell s t).map _ = _
          cases hc : cell s t with
          | none => rfl
          | some c =>
            have hf : feed1 k (rel i k p.2 s.ticks) t c = c := by
              unfold feed1 rel
              rw [h c hc]
              rw [if_neg]
              have : ((-1 : Int) == (i : Int)) = false := by simp
              rw [this]; simp
            show some _ = _
            rw [hf]
      · rfl
theorem ticks_cell (t : Nat) : ∀ (L : List Nat) (s : Cs), (∀ c, cell s t = some c → c.run.pp.2.2.2.2.2 = -1) → cell (L.foldl (fun x i => tick1 i x) s) t = cell s t
  | [], s, _ => rfl
  | i :: L, s, h => by
    rw [List.foldl_cons]
    have h1 := tick1_cell i s t h
    rw [ticks_cell t L _ (by rw [h1]; exact h), h1]
theorem tick_ans {s : Cs} {n : Nat} (ok : CsOk s n) (t : Nat) (ht : t < 8) {c : Cd} (hc : cell s t = some c) (hf : c.run.pp.2.2.2.2.2 = -1) :
    cell (doS (3, 0, 0, 0, p0, z0) s).1 t = some (serve (turnN s.bu (c.q.length : Int)) c).1 := by
  show cell (tickS s) t = _
  have h1 : cell (serveAll s) t = some (serve (turnN s.bu (c.q.length : Int)) c).1 := by
    unfold serveAll
    rw [serveL_cell (fun t => turnN s.bu (waits s t)) _ _ _ (order_nodup _), if_pos (mem_order ok.tk0 t ht), hc]
    show some (serve (turnN s.bu (waits s t)) c).1 = _
    unfold waits
    rw [hc]
  unfold tickS
  rw [ticks_cell t _ _ (fun d hd => by
    have hd : cell (serveAll s) t = some d := hd
    rw [h1] at hd
    obtain rfl := Option.some.inj hd
    rw [serve_pp]; exact hf)]
  exact h1
theorem tick_err (s : Cs) : (doS (3, 0, 0, 0, p0, z0) s).2 = (0, [], []) := rfl
theorem turn1 {bu : Int} (h : 1 ≤ bu) : turnN bu ((1 : Nat) : Int) = 1 := by unfold turnN; omega
theorem turn0 {bu : Int} (h : 1 ≤ bu) : turnN bu ((0 : Nat) : Int) = 0 := by unfold turnN; omega
theorem serve_one (c : Cd) (i : In) (h : c.q = [i]) : (serve 1 c).1 = { c with q := [], taken := c.taken ++ [i], run := (rnIn c.run i).1, rows := c.rows ++ (rnIn c.run i).2 } := by
  unfold serve
  rw [h]
  rfl
theorem serve_nil (c : Cd) (h : c.q = []) : (serve 0 c).1 = c := by
  obtain ⟨le, sp, re, q, run, id, rows, taken⟩ := c
  have h : q = [] := h
  subst h
  unfold serve
  show (⟨le, sp, re, [], run, id, rows ++ [], taken ++ []⟩ : Cd) = _
  rw [List.append_nil, List.append_nil]
theorem st_reg {s : Cs} {n : Nat} (ok : CsOk s n) (hn : n ≤ 10000) (hq : s.qu = 50) (t : Nat) (ht : t < 8) (hc : cell s t = none) :
    ∃ s', doS (1, (t : Int), 0, 0, pL, z0) s = (s', (0, [], [])) ∧ CsOk s' (n + 5) ∧ s'.bu = s.bu ∧ s'.ro = s.ro ∧ s'.qu = 50 ∧ ∀ u, cell s' u = if u = t then some (newCd (t : Int) 50 pL) else cell s u := by
  obtain ⟨h1, h2⟩ := reg_ans ok t ht hc
  obtain ⟨a1, a2, a3, _⟩ := doS_same ok (1, (t : Int), 0, 0, pL, z0)
  rw [hq] at h2
  exact ⟨_, Prod.ext rfl h1, doS_ok ok hn (by rw [hq]; decide) (1, (t : Int), 0, 0, pL, z0), a1, a2, a3.trans hq, h2⟩
theorem st_off {s : Cs} {n : Nat} (ok : CsOk s n) (hn : n ≤ 10000) (hq : s.qu = 50) (t : Nat) (ht : t < 8) {c : Cd} (hc : cell s t = some c) (i : In) (hi : (ownI (t : Int) i).2 = true) (hl : c.left ≠ 0) (hr : (c.q.length : Int) + 1 ≤ s.ro) :
    ∃ s', doS (2, (t : Int), 0, 0, p0, i) s = (s', (0, [], [])) ∧ CsOk s' (n + 5) ∧ s'.bu = s.bu ∧ s'.ro = s.ro ∧ s'.qu = 50 ∧ ∀ u, cell s' u = if u = t then some { c with q := c.q ++ [(ownI (t : Int) i).1], left := c.left - 1, spent := IntKind.i64.wrap (c.spent + 1) } else cell s u := by
  obtain ⟨h1, h2⟩ := off_ans ok t ht hc i hi hl hr
  obtain ⟨a1, a2, a3, _⟩ := doS_same ok (2, (t : Int), 0, 0, p0, i)
  exact ⟨_, Prod.ext rfl h1, doS_ok ok hn (by rw [hq]; decide) (2, (t : Int), 0, 0, p0, i), a1, a2, a3.trans hq, h2⟩
theorem st_tick {s : Cs} {n : Nat} (ok : CsOk s n) (hn : n ≤ 10000) (hq : s.qu = 50) {c : Cd} (hc : cell s 1 = some c) (hf : c.run.pp.2.2.2.2.2 = -1) :
    ∃ s', doS (3, 0, 0, 0, p0, z0) s = (s', (0, [], [])) ∧ CsOk s' (n + 5) ∧ s'.bu = s.bu ∧ s'.ro = s.ro ∧ s'.qu = 50 ∧ cell s' 1 = some (serve (turnN s.bu (c.q.length : Int)) c).1 := by
  obtain ⟨a1, a2, a3, _⟩ := doS_same ok (3, 0, 0, 0, p0, z0)
  exact ⟨_, rfl, doS_ok ok hn (by rw [hq]; decide) (3, 0, 0, 0, p0, z0), a1, a2, a3.trans hq, tick_ans ok 1 (by decide) hc hf⟩
/-- The first event's pane. -/
theorem run_ev (x : Int) (h0 : 0 ≤ x) (h1 : x ≤ 1000) : ∃ st v, st ≤ x ∧ 0 ≤ st ∧ rnEvent (newRu pL) (x, 0, 0, bt 1) = ⟨0, 0, 1, pL, [((st, 0), (1, v, bt 1))]⟩ := by
  have t0 := Int.tmod_nonneg 5 h0
  have t1 := Int.tmod_lt_of_pos x (show (0 : Int) < 5 by decide)
  have tx : x.tmod 5 ≤ x := by
    rw [Int.tmod_eq_emod_of_nonneg h0]
    omega
  have hon : onF x 0 0 0 = (0, 1, true) := by
    unfold onF tmax
    rw [decide_eq_false (show ¬ x < 0 by omega), decide_eq_false (show ¬ x > 1099511627776 by omega)]
    rfl
  have hst : starts x 5 5 = [x - x.tmod 5 - (0 : Nat) * 5] := by
    unfold starts tmax
    rw [decide_eq_true h0, decide_eq_true (show x ≤ 1099511627776 by omega), show R.wr 5 5 = true by decide, show wnc 5 5 = 1 by decide]
    show (if true = true then stF x 5 5 1 else []) = _
    rw [if_pos rfl]
    unfold stF
    rw [decide_eq_true (show x - x.tmod 5 - ((0 : Nat) : Int) * 5 ≥ 0 by omega), decide_eq_true (show x - x.tmod 5 - ((0 : Nat) : Int) * 5 > x - 5 by omega)]
    rfl
  refine ⟨x - x.tmod 5 - (0 : Nat) * 5, tk 0 1 0 0 1, by omega, by omega, ?_⟩
  unfold rnEvent
  show (⟨0, (onF x 0 0 0).1, (onF x 0 0 0).2.1, pL, if ((onF x 0 0 0).2.2 && (R.rn [] (x, 0, 0, bt 1)).2) = true then putE 5 5 1 [] (R.rn [] (x, 0, 0, bt 1)).1 else []⟩ : Ru) = _
  rw [hon]
  show (⟨0, 0, 1, pL, putL 1 0 0 (bt 1) [] (starts x 5 5)⟩ : Ru) = _
  rw [hst]
  show (⟨0, 0, 1, pL, [((x - x.tmod 5 - (0 : Nat) * 5, 0), (IntKind.i64.wrap (0 + 1), tk 0 1 0 0 1, 0#64 ||| bt 1))]⟩ : Ru) = _
  rw [show IntKind.i64.wrap (0 + 1) = 1 from rfl, BitVec.zero_or]
theorem run_mk (st v y : Int) (h0 : 0 ≤ st) (h1 : st + 5 ≤ y) (h2 : y ≤ 1000) : rnIn ⟨0, 0, 1, pL, [((st, 0), (1, v, bt 1))]⟩ (true, y, 0, 0, 0) = (⟨y, 0, 1, pL, []⟩, [(st, 0, v, 1, bt 1)]) := by
  have had : adF y 0 = true := by
    unfold adF far
    rw [decide_eq_false (show ¬ y ≤ 0 by omega), decide_eq_false (show ¬ y > 1099512676352 by omega)]
    rfl
  have hk : pkeys [((st, 0), (1, v, bt 1))] = [(st, 0)] := by unfold pkeys psort; simp
  have hd : due 5 y (st, 0) = true := by
    unfold due
    exact decide_eq_true (by show IntKind.i64.wrap (st + 5) ≤ y; rw [IntKind.wrap_i64]; omega)
  have hg : pget [(((st, 0) : Pl), ((1, v, bt 1) : Pt))] (st, 0) = some (1, v, bt 1) := by unfold pget; rw [if_pos rfl]
  have hp : pdel [(((st, 0) : Pl), ((1, v, bt 1) : Pt))] (st, 0) = [] := by unfold pdel; rw [if_pos rfl]
  have hR : clR 5 y [((st, 0), (1, v, bt 1))] = [(st, 0, v, 1, bt 1)] := by
    unfold clR
    rw [hk, List.filter_cons_of_pos hd]
    show [rowP [((st, 0), (1, v, bt 1))] (st, 0)] = _
    unfold rowP
    rw [hg]
  have hP : clP 5 y [((st, 0), (1, v, bt 1))] = [] := by
    unfold clP
    rw [hk, List.filter_cons_of_pos hd]
    exact hp
  unfold rnIn
  show (if true = true then (if adF y 0 = true then ((⟨y, 0, 1, pL, clP 5 y [((st, 0), (1, v, bt 1))]⟩ : Ru), clR 5 y [((st, 0), (1, v, bt 1))]) else _) else _) = _
  rw [if_pos rfl, if_pos had, hR, hP]
theorem run_late (x y : Int) (h0 : 0 ≤ x) (h1 : x < y) (h2 : y ≤ 1000) : rnIn ⟨y, 0, 1, pL, []⟩ (false, x, 0, 0, bt 1) = (⟨y, 1, 2, pL, []⟩, []) := by
  have hon : onF x y 0 1 = (1, 2, false) := by
    unfold onF tmax
    rw [decide_eq_false (show ¬ x < 0 by omega), decide_eq_false (show ¬ x > 1099511627776 by omega), decide_eq_true h1]
    rfl
  unfold rnIn rnEvent
  show ((⟨y, (onF x y 0 1).1, (onF x y 0 1).2.1, pL, if ((onF x y 0 1).2.2 && (R.rn [] (x, 0, 0, bt 1)).2) = true then _ else []⟩ : Ru), ([] : List Rw)) = _
  rw [hon]
  rfl
theorem own_ev (x : Int) (h0 : 0 ≤ x) (h1 : x ≤ 1000) : ownI 1 (false, x, 0, 0, 0) = ((false, x, 0, 0, bt 1), true) := by
  unfold ownI
  rw [if_neg (by simp)]
  have : evR (x, 0, 0, bt 1) = true := by
    unfold evR tmax
    rw [decide_eq_true (show (x, (0 : Int), (0 : Int), bt 1).1 ≥ 0 from h0), decide_eq_true (show (x, (0 : Int), (0 : Int), bt 1).1 ≤ 1099511627776 by show x ≤ _; omega)]
    rfl
  exact Prod.ext rfl this
theorem own_mk (t x : Int) (h0 : 1 ≤ x) (h1 : x ≤ 1000) : ownI t (true, x, 0, 0, 0) = ((true, x, 0, 0, 0), true) := by
  unfold ownI far
  rw [if_pos rfl]
  show ((true, (x, 0, 0, 0)), decide (1 ≤ x) && decide (x ≤ 1099512676352)) = _
  rw [decide_eq_true h0, decide_eq_true (show x ≤ 1099512676352 by omega)]
  rfl
def la1 (x3 x4 x7 : Int) : List Ac := [(1, 1, 0, 0, pL, z0), (1, 2, 0, 0, pL, z0), (2, 2, 0, 0, p0, (true, x3, 0, 0, 0)), (2, 1, 0, 0, p0, (false, x4, 0, 0, 0)), (3, 0, 0, 0, p0, z0), (3, 0, 0, 0, p0, z0), (2, 1, 0, 0, p0, (true, x7, 0, 0, 0)), (3, 0, 0, 0, p0, z0), (3, 0, 0, 0, p0, z0)]
def la2 (xL : Int) : List Ac := [(2, 1, 0, 0, p0, (false, xL, 0, 0, 0)), (3, 0, 0, 0, p0, z0)]
theorem late_law {s0 : Cs} (ok : CsOk s0 0) (hb : 1 ≤ s0.bu) (hr : 1 ≤ s0.ro) (hq : s0.qu = 50) (hc : ∀ t, cell s0 t = none) (x3 x4 x7 xL : Int) (h3 : 1 ≤ x3 ∧ x3 ≤ 1000) (h4 : 0 ≤ x4) (h7 : x4 + 6 = x7) (h8 : x7 ≤ 1000) (hL : 0 ≤ xL ∧ xL < x7) :
    ∃ s1 s2 row c, doL (la1 x3 x4 x7) s0 = (s1, List.replicate 9 (0, [], [])) ∧ CsOk s1 45 ∧ s1.qu = 50 ∧ rowsOf s1 1 = [row] ∧ row.2.2.2.1 = 1 ∧ doL (la2 xL) s1 = (s2, [(0, [], []), (0, [], [])]) ∧ CsOk s2 55 ∧ cell s2 1 = some c ∧ c.rows = [row] ∧ c.run.late = 1 ∧ c.run.seen = 2 ∧ c.run.P = [] := by
  obtain ⟨a1, d1, k1, b1, r1, q1, g1⟩ := st_reg ok (by decide) hq 1 (by decide) (hc 1)
  obtain ⟨a2, d2, k2, b2, r2, q2, g2⟩ := st_reg k1 (by decide) q1 2 (by decide) (by rw [g1, if_neg (by decide)]; exact hc 2)
  have c22 : cell a2 2 = some (newCd 2 50 pL) := by rw [g2, if_pos rfl]; rfl
  obtain ⟨a3, d3, k3, b3, r3, q3, g3⟩ := st_off k2 (by decide) q2 2 (by decide) c22 (true, x3, 0, 0, 0) (by rw [own_mk _ x3 h3.1 h3.2]) (by decide) (by rw [r2, r1]; exact hr)
  have c13 : cell a3 1 = some ⟨50, 0, 0, [], newRu pL, 1, [], []⟩ := by rw [g3, if_neg (by decide), g2, if_neg (by decide), g1, if_pos rfl]; rfl
  have ow4 := own_ev x4 h4 (by omega)
  obtain ⟨a4, d4, k4, b4, r4, q4, g4⟩ := st_off k3 (by decide) q3 1 (by decide) c13 (false, x4, 0, 0, 0) (by rw [show (((1 : Nat) : Int)) = 1 from rfl, ow4]) (by decide) (by rw [r3, r2, r1]; exact hr)
  have c14 : cell a4 1 = some ⟨49, 1, 0, [(false, x4, 0, 0, bt 1)], newRu pL, 1, [], []⟩ := by
    rw [g4, if_pos rfl, show (((1 : Nat) : Int)) = 1 from rfl, ow4]; rfl
  obtain ⟨st, v, hs1, hs0, hrun⟩ := run_ev x4 h4 (by omega)
  obtain ⟨a5, d5, k5, b5, r5, q5, g5⟩ := st_tick k4 (by decide) q4 c14 rfl
  have c15 : cell a5 1 = some ⟨49, 1, 0, [], ⟨0, 0, 1, pL, [((st, 0), (1, v, bt 1))]⟩, 1, [], [(false, x4, 0, 0, bt 1)]⟩ := by
    rw [g5]
    show some (serve (turnN a4.bu ((1 : Nat) : Int)) _).1 = _
    rw [turn1 (by rw [b4, b3, b2, b1]; exact hb), serve_one _ _ rfl]
    show some (⟨49, 1, 0, [], rnEvent (newRu pL) (x4, 0, 0, bt 1), 1, [], [(false, x4, 0, 0, bt 1)]⟩ : Cd) = _
    rw [hrun]
  obtain ⟨a6, d6, k6, b6, r6, q6, g6⟩ := st_tick k5 (by decide) q5 c15 rfl
  have c16 : cell a6 1 = some ⟨49, 1, 0, [], ⟨0, 0, 1, pL, [((st, 0), (1, v, bt 1))]⟩, 1, [], [(false, x4, 0, 0, bt 1)]⟩ := by
    rw [g6]
    show some (serve (turnN a5.bu ((0 : Nat) : Int)) _).1 = _
    rw [turn0 (by rw [b5, b4, b3, b2, b1]; exact hb), serve_nil _ rfl]
  have ow7 := own_mk 1 x7 (by omega) h8
  obtain ⟨a7, d7, k7, b7, r7, q7, g7⟩ := st_off k6 (by decide) q6 1 (by decide) c16 (true, x7, 0, 0, 0) (by rw [show (((1 : Nat) : Int)) = 1 from rfl, ow7]) (show (49 : Int) ≠ 0 by decide) (by rw [r6, r5, r4, r3, r2, r1]; exact hr)
  have c17 : cell a7 1 = some ⟨48, 2, 0, [(true, x7, 0, 0, 0)], ⟨0, 0, 1, pL, [((st, 0), (1, v, bt 1))]⟩, 1, [], [(false, x4, 0, 0, bt 1)]⟩ := by
    rw [g7, if_pos rfl, show (((1 : Nat) : Int)) = 1 from rfl, ow7]; rfl
  have hmk := run_mk st v x7 hs0 (by omega) h8
  obtain ⟨a8, d8, k8, b8, r8, q8, g8⟩ := st_tick k7 (by decide) q7 c17 rfl
  have c18 : cell a8 1 = some ⟨48, 2, 0, [], ⟨x7, 0, 1, pL, []⟩, 1, [(st, 0, v, 1, bt 1)], [(false, x4, 0, 0, bt 1), (true, x7, 0, 0, 0)]⟩ := by
    rw [g8]
    show some (serve (turnN a7.bu ((1 : Nat) : Int)) _).1 = _
    rw [turn1 (by rw [b7, b6, b5, b4, b3, b2, b1]; exact hb), serve_one _ _ rfl]
    dsimp only
    rw [hmk]
    rfl
  obtain ⟨a9, d9, k9, b9, r9, q9, g9⟩ := st_tick k8 (by decide) q8 c18 rfl
  have c19 : cell a9 1 = some ⟨48, 2, 0, [], ⟨x7, 0, 1, pL, []⟩, 1, [(st, 0, v, 1, bt 1)], [(false, x4, 0, 0, bt 1), (true, x7, 0, 0, 0)]⟩ := by
    rw [g9]
    show some (serve (turnN a8.bu ((0 : Nat) : Int)) _).1 = _
    rw [turn0 (by rw [b8, b7, b6, b5, b4, b3, b2, b1]; exact hb), serve_nil _ rfl]
  have owL := own_ev xL hL.1 (by omega)
  obtain ⟨e1, f1, l1, m1, n1, o1, p1⟩ := st_off k9 (by decide) q9 1 (by decide) c19 (false, xL, 0, 0, 0) (by rw [show (((1 : Nat) : Int)) = 1 from rfl, owL]) (show (48 : Int) ≠ 0 by decide) (by rw [r9, r8, r7, r6, r5, r4, r3, r2, r1]; exact hr)
  have c21 : cell e1 1 = some ⟨47, 3, 0, [(false, xL, 0, 0, bt 1)], ⟨x7, 0, 1, pL, []⟩, 1, [(st, 0, v, 1, bt 1)], [(false, x4, 0, 0, bt 1), (true, x7, 0, 0, 0)]⟩ := by
    rw [p1, if_pos rfl, show (((1 : Nat) : Int)) = 1 from rfl, owL]; rfl
  have hlt := run_late xL x7 hL.1 hL.2 h8
  obtain ⟨e2, f2, l2, m2, n2, o2, p2⟩ := st_tick l1 (by decide) o1 c21 rfl
  refine ⟨a9, e2, (st, 0, v, 1, bt 1), _, ?_, k9, q9, ?_, rfl, ?_, l2, p2, ?_⟩
  · have d1 : doS (1, 1, 0, 0, pL, z0) s0 = (a1, (0, [], [])) := d1
    have d2 : doS (1, 2, 0, 0, pL, z0) a1 = (a2, (0, [], [])) := d2
    have d3 : doS (2, 2, 0, 0, p0, (true, x3, 0, 0, 0)) a2 = (a3, (0, [], [])) := d3
    have d4 : doS (2, 1, 0, 0, p0, (false, x4, 0, 0, 0)) a3 = (a4, (0, [], [])) := d4
    have d7 : doS (2, 1, 0, 0, p0, (true, x7, 0, 0, 0)) a6 = (a7, (0, [], [])) := d7
    simp only [la1, doL, d1, d2, d3, d4, d5, d6, d7, d8, d9]
    rfl
  · unfold rowsOf
    rw [cellI_nat (by decide), show (1 : Int).toNat = 1 from rfl, c19]
  · have f1 : doS (2, 1, 0, 0, p0, (false, xL, 0, 0, 0)) a9 = (e1, (0, [], [])) := f1
    simp only [la2, doL, f1, f2]
  · have ht : turnN e1.bu ((1 : Nat) : Int) = 1 := turn1 (by rw [m1, b9, b8, b7, b6, b5, b4, b3, b2, b1]; exact hb)
    have hfin : (serve (turnN e1.bu ((1 : Nat) : Int)) ⟨47, 3, 0, [(false, xL, 0, 0, bt 1)], ⟨x7, 0, 1, pL, []⟩, 1, [(st, 0, v, 1, bt 1)], [(false, x4, 0, 0, bt 1), (true, x7, 0, 0, 0)]⟩).1 = ⟨47, 3, 0, [], ⟨x7, 1, 2, pL, []⟩, 1, [(st, 0, v, 1, bt 1)], [(false, x4, 0, 0, bt 1), (true, x7, 0, 0, 0), (false, xL, 0, 0, bt 1)]⟩ := by
      rw [ht, serve_one _ _ rfl]
      dsimp only
      rw [hlt]
      rfl
    show (serve (turnN e1.bu ((1 : Nat) : Int)) _).1.rows = _ ∧ (serve (turnN e1.bu ((1 : Nat) : Int)) _).1.run.late = _ ∧ (serve (turnN e1.bu ((1 : Nat) : Int)) _).1.run.seen = _ ∧ (serve (turnN e1.bu ((1 : Nat) : Int)) _).1.run.P = _
    rw [hfin]
    exact ⟨rfl, rfl, rfl, rfl⟩
end Go.Proofs.YtcelailgedndnaaGreatS
namespace Go.Proofs.YtcelailgedndnaaGreatS
open Go.RowKit
set_option linter.unusedVariables false
set_option linter.unusedSimpArgs false
def lw1 (x3 x4 x7 : Int) : List At := [(none, 0, (1, 1, 0, 0, pL, z0)), (none, 0, (1, 2, 0, 0, pL, z0)), (none, 0, (2, 2, 0, 0, p0, (true, x3, 0, 0, 0))), (none, 0, (2, 1, 0, 0, p0, (false, x4, 0, 0, 0))), (none, 0, (3, 0, 0, 0, p0, z0)), (none, 0, (3, 0, 0, 0, p0, z0)), (none, 0, (2, 1, 0, 0, p0, (true, x7, 0, 0, 0))), (none, 0, (3, 0, 0, 0, p0, z0)), (none, 0, (3, 0, 0, 0, p0, z0))]
def lw2 (xL : Int) : List At := [(none, 0, (2, 1, 0, 0, p0, (false, xL, 0, 0, 0))), (none, 0, (3, 0, 0, 0, p0, z0))]
theorem lw1_nil (x3 x4 x7 : Int) : ∀ r ∈ lw1 x3 x4 x7, r.1 = none ∧ r.2.2.2.2.2.2.1.1 = [] := by
  intro r hr
  simp only [lw1, List.mem_cons, List.not_mem_nil, or_false] at hr
  rcases hr with rfl | rfl | rfl | rfl | rfl | rfl | rfl | rfl | rfl <;> exact ⟨rfl, rfl⟩
theorem lw2_nil (xL : Int) : ∀ r ∈ lw2 xL, r.1 = none ∧ r.2.2.2.2.2.2.1.1 = [] := by
  intro r hr
  simp only [lw2, List.mem_cons, List.not_mem_nil, or_false] at hr
  rcases hr with rfl | rfl <;> exact ⟨rfl, rfl⟩
theorem lw_rd {l : List At} (h : ∀ r ∈ l, r.1 = none ∧ r.2.2.2.2.2.2.1.1 = []) (H : HP) : ∀ r ∈ l, RdC H r.1 (r.2.2.2.2.2.2.1.1.flatMap oc) := by
  intro r hr
  rw [(h r hr).1, (h r hr).2]
  exact rdc_nil H
theorem lw_ops {l : List At} (h : ∀ r ∈ l, r.1 = none ∧ r.2.2.2.2.2.2.1.1 = []) : ∀ r ∈ l, r.2.2.2.2.2.2.1.1.length ≤ 1000000 := by
  intro r hr
  rw [(h r hr).2]
  exact Nat.zero_le _
theorem right50 {bu ro qu : Int} {l : List Sk} (h : rightS bu ro qu l = true) : rightS bu ro 50 l = true := by
  unfold rightS at h ⊢
  simp only [Bool.and_eq_true] at h ⊢
  exact ⟨⟨h.1.1, by decide⟩, h.2⟩
set_option linter.unusedVariables false
set_option linter.unusedSimpArgs false
attribute [local irreducible] Ops Ex Spec T V QO OA Rn OS
set_option maxRecDepth 100000 in
set_option maxHeartbeats 16000000 in
theorem topLate (z : Su) (mk lt ot : Int) (hz : z.2.2.2.2.1.length ≤ maxLen) :
    Spec Tryz.prog 3 [.agg (suc z).toArray, .int .i64 mk, .int .i64 lt, .int .i64 ot] (suH z) (X := Unit) (fun _ => .bool true) (fun _ => True) (fun _ => 1) := by
  obtain ⟨bu, ro, qu, sa, sl, sc0⟩ := z
  have hz : sl.length ≤ maxLen := hz
  show Spec Tryz.prog 3 [.agg (List.toArray [.int .i64 bu, .int .i64 ro, .int .i64 qu, .slice sa sl.length sc0]), .int .i64 mk, .int .i64 lt, .int .i64 ot] (rs sa (sl.flatMap R.kc)) (X := Unit) (fun _ => .bool true) (fun _ => True) (fun _ => 1)
  have hset := fun (H' : HP) (h : RdC H' sa (sl.flatMap R.kc)) => setupK H' sa sl sc0 bu ro qu (hr := h) hz
  have hrt := right50 (kS_right bu ro qu sl)
  have hk4 := Nat.le_trans (kS_len sl) (show 2 ≤ 4 by decide)
  have bb := wn_bd bu 1 4 (by omega)
  have br := wn_bd ro 1 8 (by omega)
  have bm := wn_bd mk 5 200 (by decide)
  have bo := wn_bd ot 0 900 (by decide)
  have hwm := within mk 5 200 (by decide) (by decide) (by decide) (by decide)
  have hwo := within ot 0 900 (by decide) (by decide) (by decide) (by decide)
  generalize wn bu 1 4 = bu' at *
  generalize wn ro 1 8 = ro' at *
  generalize wn qu 0 30 = qu' at *
  generalize kS sl = ks at *
  generalize wn mk 5 200 = m at *
  generalize wn ot 0 900 = o at *
  have bl := wn_bd lt 0 m (by omega)
  have hwl := within lt 0 m (by omega) (by omega) (by omega) (by omega)
  generalize wn lt 0 m = xl at *
  have e3 : IntKind.i64.wrap (1 + o) = 1 + o := by rw [IntKind.wrap_i64]; omega
  have e4 : IntKind.i64.wrap (m - 1) = m - 1 := by rw [IntKind.wrap_i64]; omega
  have e7 : IntKind.i64.wrap (m + 5) = m + 5 := by rw [IntKind.wrap_i64]; omega
  have ok0 := newCs_ok bu' ro' 50 ks hk4
  have hnew := fun (ad : Option Addr) (sd : Nat) (H' : HP) (h : RdC H' ad (ks.flatMap sc)) => coNew H' ad ks sd bu' ro' 50 (hr := h) hk4 hrt
  have law := late_law ok0 bb.1 br.1 rfl (cell_new bu' ro' 50 ks) (IntKind.i64.wrap (1 + o)) (IntKind.i64.wrap (m - 1)) (IntKind.i64.wrap (m + 5)) xl (by omega) (by omega) (by omega) (by omega) (by omega)
  clear e3 e4 e7
  have hq0 : (newCs bu' ro' 50 ks).qu ≤ 4000 := show (50 : Int) ≤ 4000 by decide
  generalize newCs bu' ro' 50 ks = s0 at *
  generalize hx3 : IntKind.i64.wrap (1 + o) = x3 at *
  generalize hx4 : IntKind.i64.wrap (m - 1) = x4 at *
  generalize hx7 : IntKind.i64.wrap (m + 5) = x7 at *
  obtain ⟨s1, s2, row, c, hd1, ok1, q1, hrow, hcnt, hd2, ok2, hc2, hcr, hla, hse, hP⟩ := law
  obtain ⟨r1, r2, r3, r4, r5⟩ := row
  have hcnt : r4 = 1 := hcnt
  subst hcnt
  obtain ⟨le, sp, re, q, ⟨mkk, la, se, ⟨ops, sz, slv, ag, sk, fd⟩, P⟩, id, rows, taken⟩ := c
  have hcr : rows = _ := hcr
  have hla : la = 1 := hla
  have hse : se = 2 := hse
  have hP : P = [] := hP
  subst hcr; subst hla; subst hse; subst hP
  have hcI := (cellI_nat (s := s2) (t := 1) (by decide)).trans hc2
  have hro2 : rowsOf s2 1 = [(r1, r2, r3, 1, r5)] := by unfold rowsOf; rw [hcI]
  have hdo1 := fun (b b53 : Nat) (X' H' : HP) (h1 : Take (CO b s0) X' H') (h2 : RdC H' (some ⟨b53, 0, none⟩) ((lw1 x3 x4 x7).flatMap ae)) => coDoN b s0 (some ⟨b53, 0, none⟩) (lw1 x3 x4 x7) 9 (t := h1) (hr := h2) (lw_rd (lw1_nil x3 x4 x7) H') (lw_ops (lw1_nil x3 x4 x7)) ok0 hq0 (show 0 + 5 * 9 ≤ 8900 by decide)
  have hdo2 := fun (b b76 : Nat) (X' H' : HP) (h1 : Take (CO b s1) X' H') (h2 : RdC H' (some ⟨b76, 0, none⟩) ((lw2 xl).flatMap ae)) => coDoN b s1 (some ⟨b76, 0, none⟩) (lw2 xl) 2 (t := h1) (hr := h2) (lw_rd (lw2_nil xl) H') (lw_ops (lw2_nil xl)) ok1 (by rw [q1]; decide) (show 45 + 5 * 2 ≤ 8900 by decide)
  have hm1 : (lw1 x3 x4 x7).map (fun x => x.2.2) = la1 x3 x4 x7 := rfl
  have hm2 : (lw2 xl).map (fun x => x.2.2) = la2 xl := rfl
  simp only [hm1, hd1] at hdo1
  simp only [hm2, hd2] at hdo2
  have hrw1 := fun (b : Nat) (X' H' : HP) (h : Take (CO b s1) X' H') => topRows b s1 1 (t := h) ok1 (by decide) (by rw [hrow]; exact (show 1 ≤ 6400 by decide))
  have hrw2 := fun (b : Nat) (X' H' : HP) (h : Take (CO b s2) X' H') => topRows b s2 1 (t := h) ok2 (by decide) (by rw [hro2]; exact (show 1 ≤ 6400 by decide))
  simp only [hrow] at hrw1
  simp only [hro2] at hrw2
  have hcs := fun (b : Nat) (X' H' : HP) (h : Take (CO b s2) X' H') => coCellS b s2 1 (t := h) ok2 (by decide) hcI
  refine spec_of Tryz.func3 rfl Tryz.ntmps3 rfl ?_
  repeat' (first | (refine rG 0 [1, 2, 3, 4] ?_; ((try ((refine o_box (by decide) (v := .agg (List.toArray _)) rfl rfl (fun b4 => ?_)))) <;> (try (refine wK ?_; intro _)))) | (refine rG 1 [1, 2, 3, 9] ?_; ((try refine wO ?_) <;> (try ((refine o_callH (hset _ inferInstance) (by first | exact True.intro | (show _ < _; decide)) rfl rfl (fun y _ => ?_); obtain ⟨sb, sd⟩ := y))) <;> (try ((refine o_alloc_a (by decide) (fun b9 => ?_)))) <;> (try (refine wK ?_; intro _)))) | (refine rG 2 [1, 2, 3, 9] ?_; ((try (refine wK ?_; intro _)))) | refine wC ?_ | (refine ex_split rfl ?_ ?_ <;> intro hc))
  refine Ex.ent ?_ (ent_clL (b := b9) (l' := [.int .i64 bu', .int .i64 ro', .int .i64 50, .slice sb ks.length sd]) rfl)
  repeat' (first | (refine rG 3 [1, 2, 3, 10] ?_; ((try refine wO ?_) <;> (try ((refine o_callH (hnew _ _ _ inferInstance) (by first | exact True.intro | (show _ < _; decide)) rfl rfl (fun b _ => ?_)))) <;> (try (refine wK ?_; intro _)))) | (refine rG 4 [1, 2, 3, 10, 25] ?_; ((try (refine wK ?_; intro _)))) | (refine ex_regk (id := 6) (ts := [1, 2, 3, 10, 11]) ?_; ((try (refine o_build (cells := ppc none 0 pL) (by decide) rfl ?_)) <;> (try ((refine o_alloc_a (by decide) (fun b11 => ?_)))) <;> (try (first | refine o_store_a rfl rfl rfl rfl rfl ?_ | refine o_store_oa rfl rfl rfl (Nat.succ_pos _) rfl (by assumption) ?_)) <;> (try (refine ops_nilk ?_; intro _)) <;> (try ((first | refine keep_cons (v := .int _ _) rfl ?_ | refine keep_cons (v := _) rfl ?_) <;> (first | refine keep_cons (v := .int _ _) rfl ?_ | refine keep_cons (v := _) rfl ?_) <;> (first | refine keep_cons (v := .int _ _) rfl ?_ | refine keep_cons (v := _) rfl ?_) <;> (first | refine keep_cons (v := .pointer _) rfl ?_ | refine keep_cons (v := _) rfl ?_) <;> (first | refine keep_cons (v := .pointer _) rfl ?_ | refine keep_cons (v := _) rfl ?_))) <;> (try refine keep_nil ?_))) | (refine rG 7 [2, 3, 10, 11, 12] ?_; ((try refine wO ?_) <;> (try (refine o_call hwm (by first | exact True.intro | (show _ < _; decide)) rfl rfl (fun _ _ => ?_))) <;> (try (refine wK ?_; intro _)))) | refine wC ?_ | (refine ex_split rfl ?_ ?_ <;> intro hc))
  refine Ex.ent ?_ (ent_clL (b := b11) (l' := ppc none 0 pL) rfl)
  repeat' (first | (refine rA 8 [2, 10, 12, 13] 26 ?_; (refine os_all ?_); ((refine lC (v := ?_) 0 ?_ ?_; rotate_left; (focus ((refine o_load_a (vs := ppc none 0 pL) (by decide) rfl rfl ?_) <;> exact lL)); ((refine lC (v := ?_) 1 ?_ ?_; rotate_left; (focus ((refine o_build (cells := acc none 0 (1, 1, 0, 0, pL, z0)) (by decide) rfl ?_) <;> exact lL)); ((refine lC (v := ?_) 2 ?_ ?_; rotate_left; (focus ((refine o_load_a (vs := ppc none 0 pL) (by decide) rfl rfl ?_) <;> exact lL)); ((refine lC (v := ?_) 3 ?_ ?_; rotate_left; (focus ((refine o_build (cells := acc none 0 (1, 2, 0, 0, pL, z0)) (by decide) rfl ?_) <;> exact lL)); ((refine lQ 4 ?_; ((refine lC (v := ?_) 5 ?_ ?_; rotate_left; (focus ((refine o_call hwo (by first | exact True.intro | (show _ < _; decide)) rfl rfl (fun _ _ => ?_)) <;> exact lL)); ((refine lC (v := ?_) 6 ?_ ?_; rotate_left; (focus (((refine o_int (by decide) rfl rfl rfl ?_; rw [hx3])) <;> exact lL)); ((refine lC (v := ?_) 7 ?_ ?_; rotate_left; (focus ((refine o_build (cells := R.ec (x3, 0, 0, 0)) (by decide) rfl ?_) <;> exact lL)); ((refine lC (v := ?_) 8 ?_ ?_; rotate_left; (focus ((refine o_build (cells := inc (true, x3, 0, 0, 0)) (by decide) rfl ?_) <;> exact lL)); ((refine lC (v := ?_) 9 ?_ ?_; rotate_left; (focus ((refine o_build (cells := acc none 0 (2, 2, 0, 0, p0, (true, x3, 0, 0, 0))) (by decide) rfl ?_) <;> exact lL)); ((refine lQ 10 ?_; ((refine lC (v := ?_) 11 ?_ ?_; rotate_left; (focus (((refine o_int (by decide) rfl rfl rfl ?_; rw [hx4])) <;> exact lL)); ((refine lC (v := ?_) 12 ?_ ?_; rotate_left; (focus ((refine o_build (cells := R.ec (x4, 0, 0, 0)) (by decide) rfl ?_) <;> exact lL)); ((refine lC (v := ?_) 13 ?_ ?_; rotate_left; (focus ((refine o_build (cells := inc (false, x4, 0, 0, 0)) (by decide) rfl ?_) <;> exact lL)); ((refine lC (v := ?_) 14 ?_ ?_; rotate_left; (focus ((refine o_build (cells := acc none 0 (2, 1, 0, 0, p0, (false, x4, 0, 0, 0))) (by decide) rfl ?_) <;> exact lL)); ((refine lC (v := ?_) 15 ?_ ?_; rotate_left; (focus ((refine o_build (cells := acc none 0 (3, 0, 0, 0, p0, z0)) (by decide) rfl ?_) <;> exact lL)); ((refine lC (v := ?_) 16 ?_ ?_; rotate_left; (focus ((refine o_build (cells := acc none 0 (3, 0, 0, 0, p0, z0)) (by decide) rfl ?_) <;> exact lL)); ((refine lQ 17 ?_; ((refine lC (v := ?_) 18 ?_ ?_; rotate_left; (focus (((refine o_int (by decide) rfl rfl rfl ?_; rw [hx7])) <;> exact lL)); ((refine lC (v := ?_) 19 ?_ ?_; rotate_left; (focus ((refine o_build (cells := R.ec (x7, 0, 0, 0)) (by decide) rfl ?_) <;> exact lL)); ((refine lC (v := ?_) 20 ?_ ?_; rotate_left; (focus ((refine o_build (cells := inc (true, x7, 0, 0, 0)) (by decide) rfl ?_) <;> exact lL)); ((refine lC (v := ?_) 21 ?_ ?_; rotate_left; (focus ((refine o_build (cells := acc none 0 (2, 1, 0, 0, p0, (true, x7, 0, 0, 0))) (by decide) rfl ?_) <;> exact lL)); ((refine lC (v := ?_) 22 ?_ ?_; rotate_left; (focus ((refine o_build (cells := acc none 0 (3, 0, 0, 0, p0, z0)) (by decide) rfl ?_) <;> exact lL)); ((refine lC (v := ?_) 23 ?_ ?_; rotate_left; (focus ((refine o_build (cells := acc none 0 (3, 0, 0, 0, p0, z0)) (by decide) rfl ?_) <;> exact lL)); ((refine oN 24 ?_ <;> ((refine o_buildSlice (by decide) rfl rfl rfl (fun b53 => ?_); refine Ops.ent ?_ (ent_owL 41 15 (some ⟨b53, 0, none⟩) 9 9 (l' := (lw1 x3 x4 x7).flatMap ae) rfl))) <;> (refine os_nil ?_) <;> ((refine lQ 25 ?_; ((refine dK ?_; intro _))))))))))))))))))))))))))))))))))))))))))))))))))))))) | refine wC ?_ | (refine ex_split rfl ?_ ?_ <;> intro hc))
  all_goals
    repeat' (first | (refine rG 9 [2, 10, 12, 56, 57, 58] ?_; ((try refine wO ?_) <;> (try ((refine o_callH (hdo1 b b53 _ _ inferInstance inferInstance) (by first | exact True.intro | (show _ < _; decide)) rfl rfl (fun y hy => ?_); obtain ⟨ra, rc, A⟩ := y; obtain ⟨hA, hrc⟩ := hy))) <;> (try (refine wK ?_; intro _)))) | refine ex_seq ?_ | refine ex_ret ?_ | refine ex_skip ?_ | refine ex_exit ?_ | refine ex_cond_t rfl ?_ | refine ex_cond_f rfl ?_ | refine ex_cond_t (congrArg Value.bool (by assumption)) ?_ | refine ex_cond_f (congrArg Value.bool (by assumption)) ?_ | (refine ex_split rfl ?_ ?_ <;> intro hc))
    have hA : A.map (·.2) = List.replicate 9 ((0, [], []) : An) := hA
    refine Ex.ent (H' := ow 49 3 ra A.length rc (A.flatMap ancx) * CO b s1) ?_ ent_take
    refine R.ex_cut (fun e H' => ∃ G, ∃ i : Nat, ∃ v : Bool, e = put (put (put (put (put (put (put G 2 (.int .i64 lt)) 10 (.pointer (some ⟨b, 0, none⟩))) 12 (.int .i64 m)) 56 (.slice ra A.length rc)) 57 (.int .i64 (A.length : Int))) 58 (.int .i64 (i : Int))) 59 (.bool v) ∧ Ent H' (CO b s1 * 1)) ?_ ?_
    · have hAl : A.length = 9 := by
        have := congrArg List.length hA
        rw [List.length_map] at this
        exact this
      refine wC ?_
      refine ex_loopE (fun mm e H' => ∃ g, ∃ i : Nat, e = put (put (put (put (put (put g 2 (.int .i64 lt)) 10 (.pointer (some ⟨b, 0, none⟩))) 12 (.int .i64 m)) 56 (.slice ra A.length rc)) 57 (.int .i64 (A.length : Int))) 58 (.int .i64 (i : Int)) ∧
        H' = ow 49 3 ra A.length rc (A.flatMap ancx) * CO b s1 ∧ i ≤ A.length ∧ mm = A.length - i) (m := A.length) ⟨_, 0, rfl, rfl, by omega, by omega⟩ ?_ ?_
      · exact Ent.refl _
      · rintro mm e H' ⟨g, i, rfl, rfl, hi, rfl⟩
        have ei : IntKind.i64.wrap ((i : Int) + 1) = ((i + 1 : Nat) : Int) := by rw [IntKind.wrap_i64]; omega
        by_cases hlt : i < A.length
        · have hd : decide ((i : Int) < (A.length : Int)) = true := decide_eq_true (by omega)
          have h0 : 0 ≤ (i : Int) := by omega
          have h1 : (i : Int) < (A.length : Int) := by omega
          refine Ex.rd_some (a := ra) (l := A.flatMap ancx) (by rw [flat_len ancx_len]; omega) (fun ad ha2 => ?_)
          subst ha2
          have hv : sub (A.flatMap ancx) ((i : Int).toNat * 3) 3 = some (ancx A[i]) := by rw [Int.toNat_natCast]; exact sub_flat ancx_len A i hlt
          have hai : A[i].2 = ((0, [], []) : An) := List.eq_of_mem_replicate (hA ▸ List.mem_map_of_mem (List.getElem_mem hlt))
          generalize A[i] = x at *
          obtain ⟨ya, an⟩ := x
          have hai : an = (0, [], []) := hai
          subst hai
          repeat' (first | (refine rG 10 [2, 10, 12, 56, 57, 58, 59] ?_; ((try (refine wK ?_; intro _)))) | (refine ex_regk (id := 11) (ts := [2, 10, 12, 15, 56, 57, 58]) ?_; ((try (refine o_index (by decide) rfl rfl (by first | decide | assumption | omega) (by first | decide | assumption | omega) ?_)) <;> (try (refine o_load_ra (vs := ancx (ya, ((0, [], []) : An))) (by decide) rfl hv ?_)) <;> (try ((refine o_alloc_a (by decide) (fun b15 => ?_)))) <;> (try (first | refine o_store_a rfl rfl rfl rfl rfl ?_ | refine o_store_oa rfl rfl rfl (Nat.succ_pos _) rfl (by assumption) ?_)) <;> (try (refine ops_nilk ?_; intro _)) <;> (try ((first | refine keep_cons (v := .int _ _) rfl ?_ | refine keep_cons (v := _) rfl ?_) <;> (first | refine keep_cons (v := .pointer _) rfl ?_ | refine keep_cons (v := _) rfl ?_) <;> (first | refine keep_cons (v := .int _ _) rfl ?_ | refine keep_cons (v := _) rfl ?_) <;> (first | refine keep_cons (v := .pointer _) rfl ?_ | refine keep_cons (v := _) rfl ?_) <;> (first | refine keep_cons (v := .slice _ _ _) rfl ?_ | refine keep_cons (v := _) rfl ?_) <;> (first | refine keep_cons (v := .int _ _) rfl ?_ | refine keep_cons (v := _) rfl ?_) <;> (first | refine keep_cons (v := .int _ _) rfl ?_ | refine keep_cons (v := _) rfl ?_))) <;> (try refine keep_nil ?_))) | refine wC ?_ | (refine ex_split rfl ?_ ?_ <;> intro hc))
          refine Ex.ent ?_ (ent_clL (b := b15) (l' := ancx (ya, ((0, [], []) : An))) rfl)
          repeat' (first | (refine rG 12 [2, 10, 12, 56, 57, 58, 64] ?_; ((try (refine wK ?_; intro _)))) | (refine rG 14 [2, 10, 12, 56, 57, 58] ?_; ((try (refine wK ?_; intro _)))) | refine wC ?_ | (refine ex_split rfl ?_ ?_ <;> intro hc))
          rw [ei]
          refine ⟨A.length - (i + 1), by omega, _, ?_, _, i + 1, rfl, rfl, by omega, rfl⟩
          exact ent_take
        · have hd : decide ((i : Int) < (A.length : Int)) = false := decide_eq_false (by omega)
          repeat' (first | (refine rG 10 [2, 10, 12, 56, 57, 58, 59] ?_; ((try (refine wK ?_; intro _)))) | refine wC ?_ | (refine ex_split rfl ?_ ?_ <;> intro hc))
          exact ⟨rfl, _, i, _, rfl, ent_take⟩
    · rintro e H' ⟨G, i0, v0, rfl, hE⟩
      refine Ex.ent ?_ hE
      repeat' (first | (refine rG 15 [2, 10, 12, 16] ?_; ((try refine wO ?_) <;> (try ((refine o_callH (hrw1 b _ _ inferInstance) (by first | exact True.intro | (show _ < _; decide)) rfl rfl (fun y16 h16 => ?_); obtain ⟨wa, wc⟩ := y16))) <;> (try (refine wK ?_; intro _)))) | (refine ex_regk (id := 16) (ts := [10, 16, 17]) ?_; ((try (first | refine o_mv (v := .pointer _) (by decide) rfl ?_ | refine o_mv (by decide) rfl ?_)) <;> (try (first | refine o_mv (v := .int _ _) (by decide) rfl ?_ | refine o_mv (by decide) rfl ?_)) <;> (try (first | refine o_mv (v := .int _ _) (by decide) rfl ?_ | refine o_mv (by decide) rfl ?_)) <;> (try (refine o_call hwl (by first | exact True.intro | (show _ < _; decide)) rfl rfl (fun _ _ => ?_))) <;> (try (refine o_build (cells := R.ec (xl, 0, 0, 0)) (by decide) rfl ?_)) <;> (try (refine o_build (cells := inc (false, xl, 0, 0, 0)) (by decide) rfl ?_)) <;> (try (refine o_build (cells := acc none 0 (2, 1, 0, 0, p0, (false, xl, 0, 0, 0))) (by decide) rfl ?_)) <;> (try (refine o_build (cells := acc none 0 (3, 0, 0, 0, p0, z0)) (by decide) rfl ?_)) <;> (try ((refine o_buildSlice (by decide) rfl rfl rfl (fun b76 => ?_); refine Ops.ent ?_ (ent_owL 41 15 (some ⟨b76, 0, none⟩) 2 2 (l' := (lw2 xl).flatMap ae) rfl)))) <;> (try ((refine o_callH (hdo2 b b76 _ _ inferInstance inferInstance) (by first | exact True.intro | (show _ < _; decide)) rfl rfl (fun y hy => ?_); obtain ⟨ba, bc, B⟩ := y; obtain ⟨hB, hbc⟩ := hy))) <;> (try (first | refine o_as (v := .slice _ _ _) (by decide) rfl ?_ | refine o_as (by decide) rfl ?_)) <;> (try (refine ops_nilk ?_; intro _)) <;> (try ((first | refine keep_cons (v := .pointer _) rfl ?_ | refine keep_cons (v := _) rfl ?_) <;> (first | refine keep_cons (v := .slice _ _ _) rfl ?_ | refine keep_cons (v := _) rfl ?_) <;> (first | refine keep_cons (v := .slice _ _ _) rfl ?_ | refine keep_cons (v := _) rfl ?_))) <;> (try refine keep_nil ?_))) | refine wC ?_ | (refine ex_split rfl ?_ ?_ <;> intro hc))
      have hB : B.map (·.2) = [((0, [], []) : An), (0, [], [])] := hB
      obtain ⟨u1, u2, rfl⟩ : ∃ a b, B = [a, b] := by
        have := congrArg List.length hB
        rw [List.length_map] at this
        match B, this with
        | [a, b], _ => exact ⟨a, b, rfl⟩
      obtain ⟨u1, n1⟩ := u1
      have hn1 : n1 = (0, [], []) := by
        have := congrArg (fun l => l[0]?) hB
        exact Option.some.inj this
      subst hn1
      refine Ex.rd_some (a := ba) (l := [((u1, (0, [], [])) : Ay × An), u2].flatMap ancx) (by rw [flat_len ancx_len]; simp) (fun bd ha => ?_)
      subst ha
      refine Ex.rd_some (a := wa) (l := [((r1, r2, r3, 1, r5) : Rw)].flatMap rwc) (Nat.succ_pos _) (fun wd ha => ?_)
      subst ha
      have hv0 : ([((u1, (0, [], [])) : Ay × An), u2].flatMap ancx)[(0 : Int).toNat * 3 + 0]? = some (.int .i64 0) := rfl
      have hv3 : ([((r1, r2, r3, 1, r5) : Rw)].flatMap rwc)[(0 : Int).toNat * 5 + 3]? = some (.int .i64 1) := rfl
      show Ex Tryz.prog _ _ (put (put _ 16 (.slice (some wd) 1 wc)) 17 (.slice (some bd) 2 bc)) _ _
      repeat' (first | (refine rG 17 [10, 16, 17, 18] ?_; ((try refine wO ?_) <;> (try ((refine o_callH (hcs b _ _ inferInstance) (by first | exact True.intro | (show _ < _; decide)) rfl rfl (fun yb _ => ?_)))) <;> (try (refine wK ?_; intro _)))) | refine wC ?_ | (refine ex_split rfl ?_ ?_ <;> intro hc))
      refine ex_ce fun rb pb mb oa' ocp qa qc ra' rc' ta tc hqc hrc' htc' => ?_
      simp only [RR_eq, sep_assoc]
      have hlen := fun (X' H' : HP) (h : Take (PT pb mb sz slv ag []) X' H') => pnLen pb mb sz slv ag [] (t := h)
      repeat' (first | (refine ex_regk (id := 18) (ts := [10, 16, 18, 110]) ?_; ((try (first | refine o_mv (v := .slice _ _ _) (by decide) rfl ?_ | refine o_mv (by decide) rfl ?_)) <;> (try (refine o_len (by decide) rfl rfl ?_)) <;> (try (refine o_int (by decide) rfl rfl rfl ?_)) <;> (try (first | refine o_mv (v := .bool _) (by decide) rfl ?_ | refine o_mv (by decide) rfl ?_)) <;> (try (first | refine g_no rfl (by decide) rfl (by decide) ?_ | refine g_undef rfl rfl (by decide) ?_ | (refine g_yes rfl (by decide) rfl ?_; (first | refine o_mv (v := .slice _ _ _) (by decide) rfl ?_ | refine o_mv (by decide) rfl ?_)) | refine g_noT rfl (by decide) rfl (by assumption) (by decide) ?_ | (refine g_yesF rfl (by decide) rfl (by assumption) ?_; (first | refine o_mv (v := .slice _ _ _) (by decide) rfl ?_ | refine o_mv (by decide) rfl ?_)) | ((refine g_split rfl (by decide) rfl (by decide) ?_ ?_ <;> intro hc); (first | refine o_mv (v := .slice _ _ _) (by decide) rfl ?_ | refine o_mv (by decide) rfl ?_)))) <;> (try (first | refine g_no rfl (by decide) rfl (by decide) ?_ | refine g_undef rfl rfl (by decide) ?_ | (refine g_yes rfl (by decide) rfl ?_; (refine o_index (by decide) rfl rfl (by first | decide | assumption | omega) (by first | decide | assumption | omega) ?_)) | refine g_noT rfl (by decide) rfl (by assumption) (by decide) ?_ | (refine g_yesF rfl (by decide) rfl (by assumption) ?_; (refine o_index (by decide) rfl rfl (by first | decide | assumption | omega) (by first | decide | assumption | omega) ?_)) | ((refine g_split rfl (by decide) rfl (by decide) ?_ ?_ <;> intro hc); (refine o_index (by decide) rfl rfl (by first | decide | assumption | omega) (by first | decide | assumption | omega) ?_)))) <;> (try (first | refine g_no rfl (by decide) rfl (by decide) ?_ | refine g_undef rfl rfl (by decide) ?_ | (refine g_yes rfl (by decide) rfl ?_; (first | refine o_fieldAddr' (by decide) rfl ?_ | refine o_fieldAddrS (by decide) rfl ?_)) | refine g_noT rfl (by decide) rfl (by assumption) (by decide) ?_ | (refine g_yesF rfl (by decide) rfl (by assumption) ?_; (first | refine o_fieldAddr' (by decide) rfl ?_ | refine o_fieldAddrS (by decide) rfl ?_)) | ((refine g_split rfl (by decide) rfl (by decide) ?_ ?_ <;> intro hc); (first | refine o_fieldAddr' (by decide) rfl ?_ | refine o_fieldAddrS (by decide) rfl ?_)))) <;> (try (first | refine g_no rfl (by decide) rfl (by decide) ?_ | refine g_undef rfl rfl (by decide) ?_ | (refine g_yes rfl (by decide) rfl ?_; (refine o_load_r (by decide) rfl hv0 ?_)) | refine g_noT rfl (by decide) rfl (by assumption) (by decide) ?_ | (refine g_yesF rfl (by decide) rfl (by assumption) ?_; (refine o_load_r (by decide) rfl hv0 ?_)) | ((refine g_split rfl (by decide) rfl (by decide) ?_ ?_ <;> intro hc); (refine o_load_r (by decide) rfl hv0 ?_)))) <;> (try (first | refine g_no rfl (by decide) rfl (by decide) ?_ | refine g_undef rfl rfl (by decide) ?_ | (refine g_yes rfl (by decide) rfl ?_; (refine o_int (by decide) rfl rfl rfl ?_)) | refine g_noT rfl (by decide) rfl (by assumption) (by decide) ?_ | (refine g_yesF rfl (by decide) rfl (by assumption) ?_; (refine o_int (by decide) rfl rfl rfl ?_)) | ((refine g_split rfl (by decide) rfl (by decide) ?_ ?_ <;> intro hc); (refine o_int (by decide) rfl rfl rfl ?_)))) <;> (try (first | refine o_pick_t (v := .bool _) (by decide) rfl rfl ?_ | refine o_pick_f (v := .bool _) (by decide) rfl rfl ?_)) <;> (try (first | refine o_mv (v := .bool _) (by decide) rfl ?_ | refine o_mv (by decide) rfl ?_)) <;> (try (first | refine g_no rfl (by decide) rfl (by decide) ?_ | refine g_undef rfl rfl (by decide) ?_ | (refine g_yes rfl (by decide) rfl ?_; (first | refine o_mv (v := .pointer _) (by decide) rfl ?_ | refine o_mv (by decide) rfl ?_)) | refine g_noT rfl (by decide) rfl (by assumption) (by decide) ?_ | (refine g_yesF rfl (by decide) rfl (by assumption) ?_; (first | refine o_mv (v := .pointer _) (by decide) rfl ?_ | refine o_mv (by decide) rfl ?_)) | ((refine g_split rfl (by decide) rfl (by decide) ?_ ?_ <;> intro hc); (first | refine o_mv (v := .pointer _) (by decide) rfl ?_ | refine o_mv (by decide) rfl ?_)))) <;> (try (first | refine g_no rfl (by decide) rfl (by decide) ?_ | refine g_undef rfl rfl (by decide) ?_ | (refine g_yes rfl (by decide) rfl ?_; (refine o_eqPN (by decide) rfl (by kernel_rfl) ?_)) | refine g_noT rfl (by decide) rfl (by assumption) (by decide) ?_ | (refine g_yesF rfl (by decide) rfl (by assumption) ?_; (refine o_eqPN (by decide) rfl (by kernel_rfl) ?_)) | ((refine g_split rfl (by decide) rfl (by decide) ?_ ?_ <;> intro hc); (refine o_eqPN (by decide) rfl (by kernel_rfl) ?_)))) <;> (try (first | refine o_pick_t (v := .bool _) (by decide) rfl rfl ?_ | refine o_pick_f (v := .bool _) (by decide) rfl rfl ?_)) <;> (try (first | refine o_mv (v := .bool _) (by decide) rfl ?_ | refine o_mv (by decide) rfl ?_)) <;> (try (first | refine g_no rfl (by decide) rfl (by decide) ?_ | refine g_undef rfl rfl (by decide) ?_ | (refine g_yes rfl (by decide) rfl ?_; (first | refine o_mv (v := .pointer _) (by decide) rfl ?_ | refine o_mv (by decide) rfl ?_)) | refine g_noT rfl (by decide) rfl (by assumption) (by decide) ?_ | (refine g_yesF rfl (by decide) rfl (by assumption) ?_; (first | refine o_mv (v := .pointer _) (by decide) rfl ?_ | refine o_mv (by decide) rfl ?_)) | ((refine g_split rfl (by decide) rfl (by decide) ?_ ?_ <;> intro hc); (first | refine o_mv (v := .pointer _) (by decide) rfl ?_ | refine o_mv (by decide) rfl ?_)))) <;> (try (first | refine g_no rfl (by decide) rfl (by decide) ?_ | refine g_undef rfl rfl (by decide) ?_ | (refine g_yes rfl (by decide) rfl ?_; (first | refine o_nil (by decide) rfl ?_ | refine o_nil_func (by decide) rfl ?_)) | refine g_noT rfl (by decide) rfl (by assumption) (by decide) ?_ | (refine g_yesF rfl (by decide) rfl (by assumption) ?_; (first | refine o_nil (by decide) rfl ?_ | refine o_nil_func (by decide) rfl ?_)) | ((refine g_split rfl (by decide) rfl (by decide) ?_ ?_ <;> intro hc); (first | refine o_nil (by decide) rfl ?_ | refine o_nil_func (by decide) rfl ?_)))) <;> (try (first | refine g_no rfl (by decide) rfl (by decide) ?_ | refine g_undef rfl rfl (by decide) ?_ | (refine g_yes rfl (by decide) rfl ?_; (first | refine o_fieldAddr' (by decide) rfl ?_ | refine o_fieldAddrS (by decide) rfl ?_)) | refine g_noT rfl (by decide) rfl (by assumption) (by decide) ?_ | (refine g_yesF rfl (by decide) rfl (by assumption) ?_; (first | refine o_fieldAddr' (by decide) rfl ?_ | refine o_fieldAddrS (by decide) rfl ?_)) | ((refine g_split rfl (by decide) rfl (by decide) ?_ ?_ <;> intro hc); (first | refine o_fieldAddr' (by decide) rfl ?_ | refine o_fieldAddrS (by decide) rfl ?_)))) <;> (try (first | refine g_no rfl (by decide) rfl (by decide) ?_ | refine g_undef rfl rfl (by decide) ?_ | (refine g_yes rfl (by decide) rfl ?_; (first | refine o_load_s (v := .pointer _) (by decide) rfl rfl ?_ | refine o_load_s (by decide) rfl rfl ?_ | refine o_load_r (by decide) rfl (by assumption) ?_ | refine o_load_r (v := .pointer _) (by decide) rfl rfl ?_)) | refine g_noT rfl (by decide) rfl (by assumption) (by decide) ?_ | (refine g_yesF rfl (by decide) rfl (by assumption) ?_; (first | refine o_load_s (v := .pointer _) (by decide) rfl rfl ?_ | refine o_load_s (by decide) rfl rfl ?_ | refine o_load_r (by decide) rfl (by assumption) ?_ | refine o_load_r (v := .pointer _) (by decide) rfl rfl ?_)) | ((refine g_split rfl (by decide) rfl (by decide) ?_ ?_ <;> intro hc); (first | refine o_load_s (v := .pointer _) (by decide) rfl rfl ?_ | refine o_load_s (by decide) rfl rfl ?_ | refine o_load_r (by decide) rfl (by assumption) ?_ | refine o_load_r (v := .pointer _) (by decide) rfl rfl ?_)))) <;> (try (first | refine g_no rfl (by decide) rfl (by decide) ?_ | refine g_undef rfl rfl (by decide) ?_ | (refine g_yes rfl (by decide) rfl ?_; (refine o_eqPN (by decide) rfl (by kernel_rfl) ?_)) | refine g_noT rfl (by decide) rfl (by assumption) (by decide) ?_ | (refine g_yesF rfl (by decide) rfl (by assumption) ?_; (refine o_eqPN (by decide) rfl (by kernel_rfl) ?_)) | ((refine g_split rfl (by decide) rfl (by decide) ?_ ?_ <;> intro hc); (refine o_eqPN (by decide) rfl (by kernel_rfl) ?_)))) <;> (try (first | refine o_pick_t (v := .bool _) (by decide) rfl rfl ?_ | refine o_pick_f (v := .bool _) (by decide) rfl rfl ?_)) <;> (try (first | refine o_mv (v := .bool _) (by decide) rfl ?_ | refine o_mv (by decide) rfl ?_)) <;> (try (first | refine g_no rfl (by decide) rfl (by decide) ?_ | refine g_undef rfl rfl (by decide) ?_ | (refine g_yes rfl (by decide) rfl ?_; (first | refine o_mv (v := .pointer _) (by decide) rfl ?_ | refine o_mv (by decide) rfl ?_)) | refine g_noT rfl (by decide) rfl (by assumption) (by decide) ?_ | (refine g_yesF rfl (by decide) rfl (by assumption) ?_; (first | refine o_mv (v := .pointer _) (by decide) rfl ?_ | refine o_mv (by decide) rfl ?_)) | ((refine g_split rfl (by decide) rfl (by decide) ?_ ?_ <;> intro hc); (first | refine o_mv (v := .pointer _) (by decide) rfl ?_ | refine o_mv (by decide) rfl ?_)))) <;> (try (first | refine g_no rfl (by decide) rfl (by decide) ?_ | refine g_undef rfl rfl (by decide) ?_ | (refine g_yes rfl (by decide) rfl ?_; (first | refine o_nil (by decide) rfl ?_ | refine o_nil_func (by decide) rfl ?_)) | refine g_noT rfl (by decide) rfl (by assumption) (by decide) ?_ | (refine g_yesF rfl (by decide) rfl (by assumption) ?_; (first | refine o_nil (by decide) rfl ?_ | refine o_nil_func (by decide) rfl ?_)) | ((refine g_split rfl (by decide) rfl (by decide) ?_ ?_ <;> intro hc); (first | refine o_nil (by decide) rfl ?_ | refine o_nil_func (by decide) rfl ?_)))) <;> (try (first | refine g_no rfl (by decide) rfl (by decide) ?_ | refine g_undef rfl rfl (by decide) ?_ | (refine g_yes rfl (by decide) rfl ?_; (first | refine o_fieldAddr' (by decide) rfl ?_ | refine o_fieldAddrS (by decide) rfl ?_)) | refine g_noT rfl (by decide) rfl (by assumption) (by decide) ?_ | (refine g_yesF rfl (by decide) rfl (by assumption) ?_; (first | refine o_fieldAddr' (by decide) rfl ?_ | refine o_fieldAddrS (by decide) rfl ?_)) | ((refine g_split rfl (by decide) rfl (by decide) ?_ ?_ <;> intro hc); (first | refine o_fieldAddr' (by decide) rfl ?_ | refine o_fieldAddrS (by decide) rfl ?_)))) <;> (try (first | refine g_no rfl (by decide) rfl (by decide) ?_ | refine g_undef rfl rfl (by decide) ?_ | (refine g_yes rfl (by decide) rfl ?_; (first | refine o_load_s (v := .pointer _) (by decide) rfl rfl ?_ | refine o_load_s (by decide) rfl rfl ?_ | refine o_load_r (by decide) rfl (by assumption) ?_ | refine o_load_r (v := .pointer _) (by decide) rfl rfl ?_)) | refine g_noT rfl (by decide) rfl (by assumption) (by decide) ?_ | (refine g_yesF rfl (by decide) rfl (by assumption) ?_; (first | refine o_load_s (v := .pointer _) (by decide) rfl rfl ?_ | refine o_load_s (by decide) rfl rfl ?_ | refine o_load_r (by decide) rfl (by assumption) ?_ | refine o_load_r (v := .pointer _) (by decide) rfl rfl ?_)) | ((refine g_split rfl (by decide) rfl (by decide) ?_ ?_ <;> intro hc); (first | refine o_load_s (v := .pointer _) (by decide) rfl rfl ?_ | refine o_load_s (by decide) rfl rfl ?_ | refine o_load_r (by decide) rfl (by assumption) ?_ | refine o_load_r (v := .pointer _) (by decide) rfl rfl ?_)))) <;> (try (first | refine g_no rfl (by decide) rfl (by decide) ?_ | refine g_undef rfl rfl (by decide) ?_ | (refine g_yes rfl (by decide) rfl ?_; (first | refine o_nil (by decide) rfl ?_ | refine o_nil_func (by decide) rfl ?_)) | refine g_noT rfl (by decide) rfl (by assumption) (by decide) ?_ | (refine g_yesF rfl (by decide) rfl (by assumption) ?_; (first | refine o_nil (by decide) rfl ?_ | refine o_nil_func (by decide) rfl ?_)) | ((refine g_split rfl (by decide) rfl (by decide) ?_ ?_ <;> intro hc); (first | refine o_nil (by decide) rfl ?_ | refine o_nil_func (by decide) rfl ?_)))) <;> (try (first | refine g_no rfl (by decide) rfl (by decide) ?_ | refine g_undef rfl rfl (by decide) ?_ | (refine g_yes rfl (by decide) rfl ?_; (first | refine o_fieldAddr' (by decide) rfl ?_ | refine o_fieldAddrS (by decide) rfl ?_)) | refine g_noT rfl (by decide) rfl (by assumption) (by decide) ?_ | (refine g_yesF rfl (by decide) rfl (by assumption) ?_; (first | refine o_fieldAddr' (by decide) rfl ?_ | refine o_fieldAddrS (by decide) rfl ?_)) | ((refine g_split rfl (by decide) rfl (by decide) ?_ ?_ <;> intro hc); (first | refine o_fieldAddr' (by decide) rfl ?_ | refine o_fieldAddrS (by decide) rfl ?_)))) <;> (try (first | refine g_no rfl (by decide) rfl (by decide) ?_ | refine g_undef rfl rfl (by decide) ?_ | (refine g_yes rfl (by decide) rfl ?_; (first | refine o_load_s (v := .pointer _) (by decide) rfl rfl ?_ | refine o_load_s (by decide) rfl rfl ?_ | refine o_load_r (by decide) rfl (by assumption) ?_ | refine o_load_r (v := .pointer _) (by decide) rfl rfl ?_)) | refine g_noT rfl (by decide) rfl (by assumption) (by decide) ?_ | (refine g_yesF rfl (by decide) rfl (by assumption) ?_; (first | refine o_load_s (v := .pointer _) (by decide) rfl rfl ?_ | refine o_load_s (by decide) rfl rfl ?_ | refine o_load_r (by decide) rfl (by assumption) ?_ | refine o_load_r (v := .pointer _) (by decide) rfl rfl ?_)) | ((refine g_split rfl (by decide) rfl (by decide) ?_ ?_ <;> intro hc); (first | refine o_load_s (v := .pointer _) (by decide) rfl rfl ?_ | refine o_load_s (by decide) rfl rfl ?_ | refine o_load_r (by decide) rfl (by assumption) ?_ | refine o_load_r (v := .pointer _) (by decide) rfl rfl ?_)))) <;> (try (first | refine g_no rfl (by decide) rfl (by decide) ?_ | refine g_undef rfl rfl (by decide) ?_ | (refine g_yes rfl (by decide) rfl ?_; (refine o_eqPN (by decide) rfl (by kernel_rfl) ?_)) | refine g_noT rfl (by decide) rfl (by assumption) (by decide) ?_ | (refine g_yesF rfl (by decide) rfl (by assumption) ?_; (refine o_eqPN (by decide) rfl (by kernel_rfl) ?_)) | ((refine g_split rfl (by decide) rfl (by decide) ?_ ?_ <;> intro hc); (refine o_eqPN (by decide) rfl (by kernel_rfl) ?_)))) <;> (try (first | refine o_pick_t (v := .bool _) (by decide) rfl rfl ?_ | refine o_pick_f (v := .bool _) (by decide) rfl rfl ?_)) <;> (try (refine ops_nilk ?_; intro _)) <;> (try ((first | refine keep_cons (v := .pointer _) rfl ?_ | refine keep_cons (v := _) rfl ?_) <;> (first | refine keep_cons (v := .slice _ _ _) rfl ?_ | refine keep_cons (v := _) rfl ?_) <;> (first | refine keep_cons (v := .pointer _) rfl ?_ | refine keep_cons (v := _) rfl ?_) <;> (first | refine keep_cons (v := .bool _) rfl ?_ | refine keep_cons (v := _) rfl ?_))) <;> (try refine keep_nil ?_))) | refine wC ?_ | (refine ex_split rfl ?_ ?_ <;> intro hc))
      repeat' (first | (refine ex_regk (id := 20) (ts := [8]) ?_; ((try (first | refine o_mv (v := .slice _ _ _) (by decide) rfl ?_ | refine o_mv (by decide) rfl ?_)) <;> (try (refine o_len (by decide) rfl rfl ?_)) <;> (try (refine o_int (by decide) rfl rfl rfl ?_)) <;> (try (first | refine o_mv (v := .bool _) (by decide) rfl ?_ | refine o_mv (by decide) rfl ?_)) <;> (try (first | refine g_no rfl (by decide) rfl (by decide) ?_ | refine g_undef rfl rfl (by decide) ?_ | (refine g_yes rfl (by decide) rfl ?_; (first | refine o_mv (v := .slice _ _ _) (by decide) rfl ?_ | refine o_mv (by decide) rfl ?_)) | refine g_noF rfl (by decide) rfl (by assumption) (by decide) ?_ | (refine g_yesT rfl (by decide) rfl (by assumption) ?_; (first | refine o_mv (v := .slice _ _ _) (by decide) rfl ?_ | refine o_mv (by decide) rfl ?_)) | ((refine g_split rfl (by decide) rfl (by decide) ?_ ?_ <;> intro hc); (first | refine o_mv (v := .slice _ _ _) (by decide) rfl ?_ | refine o_mv (by decide) rfl ?_)))) <;> (try (first | refine g_no rfl (by decide) rfl (by decide) ?_ | refine g_undef rfl rfl (by decide) ?_ | (refine g_yes rfl (by decide) rfl ?_; (refine o_index (by decide) rfl rfl (by first | decide | assumption | omega) (by first | decide | assumption | omega) ?_)) | refine g_noF rfl (by decide) rfl (by assumption) (by decide) ?_ | (refine g_yesT rfl (by decide) rfl (by assumption) ?_; (refine o_index (by decide) rfl rfl (by first | decide | assumption | omega) (by first | decide | assumption | omega) ?_)) | ((refine g_split rfl (by decide) rfl (by decide) ?_ ?_ <;> intro hc); (refine o_index (by decide) rfl rfl (by first | decide | assumption | omega) (by first | decide | assumption | omega) ?_)))) <;> (try (first | refine g_no rfl (by decide) rfl (by decide) ?_ | refine g_undef rfl rfl (by decide) ?_ | (refine g_yes rfl (by decide) rfl ?_; (first | refine o_fieldAddr' (by decide) rfl ?_ | refine o_fieldAddrS (by decide) rfl ?_)) | refine g_noF rfl (by decide) rfl (by assumption) (by decide) ?_ | (refine g_yesT rfl (by decide) rfl (by assumption) ?_; (first | refine o_fieldAddr' (by decide) rfl ?_ | refine o_fieldAddrS (by decide) rfl ?_)) | ((refine g_split rfl (by decide) rfl (by decide) ?_ ?_ <;> intro hc); (first | refine o_fieldAddr' (by decide) rfl ?_ | refine o_fieldAddrS (by decide) rfl ?_)))) <;> (try (first | refine g_no rfl (by decide) rfl (by decide) ?_ | refine g_undef rfl rfl (by decide) ?_ | (refine g_yes rfl (by decide) rfl ?_; (refine o_load_r (by decide) rfl hv3 ?_)) | refine g_noF rfl (by decide) rfl (by assumption) (by decide) ?_ | (refine g_yesT rfl (by decide) rfl (by assumption) ?_; (refine o_load_r (by decide) rfl hv3 ?_)) | ((refine g_split rfl (by decide) rfl (by decide) ?_ ?_ <;> intro hc); (refine o_load_r (by decide) rfl hv3 ?_)))) <;> (try (first | refine g_no rfl (by decide) rfl (by decide) ?_ | refine g_undef rfl rfl (by decide) ?_ | (refine g_yes rfl (by decide) rfl ?_; (refine o_int (by decide) rfl rfl rfl ?_)) | refine g_noF rfl (by decide) rfl (by assumption) (by decide) ?_ | (refine g_yesT rfl (by decide) rfl (by assumption) ?_; (refine o_int (by decide) rfl rfl rfl ?_)) | ((refine g_split rfl (by decide) rfl (by decide) ?_ ?_ <;> intro hc); (refine o_int (by decide) rfl rfl rfl ?_)))) <;> (try (first | refine o_pick_t (v := .bool _) (by decide) rfl rfl ?_ | refine o_pick_f (v := .bool _) (by decide) rfl rfl ?_)) <;> (try (first | refine o_mv (v := .bool _) (by decide) rfl ?_ | refine o_mv (by decide) rfl ?_)) <;> (try (first | refine g_no rfl (by decide) rfl (by decide) ?_ | refine g_undef rfl rfl (by decide) ?_ | (refine g_yes rfl (by decide) rfl ?_; (first | refine o_mv (v := .pointer _) (by decide) rfl ?_ | refine o_mv (by decide) rfl ?_)) | refine g_noF rfl (by decide) rfl (by assumption) (by decide) ?_ | (refine g_yesT rfl (by decide) rfl (by assumption) ?_; (first | refine o_mv (v := .pointer _) (by decide) rfl ?_ | refine o_mv (by decide) rfl ?_)) | ((refine g_split rfl (by decide) rfl (by decide) ?_ ?_ <;> intro hc); (first | refine o_mv (v := .pointer _) (by decide) rfl ?_ | refine o_mv (by decide) rfl ?_)))) <;> (try (first | refine g_no rfl (by decide) rfl (by decide) ?_ | refine g_undef rfl rfl (by decide) ?_ | (refine g_yes rfl (by decide) rfl ?_; ((refine o_callH (hrw2 b _ _ inferInstance) (by first | exact True.intro | (show _ < _; decide)) rfl rfl (fun y123 h123 => ?_)))) | refine g_noF rfl (by decide) rfl (by assumption) (by decide) ?_ | (refine g_yesT rfl (by decide) rfl (by assumption) ?_; ((refine o_callH (hrw2 b _ _ inferInstance) (by first | exact True.intro | (show _ < _; decide)) rfl rfl (fun y123 h123 => ?_)))) | ((refine g_split rfl (by decide) rfl (by decide) ?_ ?_ <;> intro hc); ((refine o_callH (hrw2 b _ _ inferInstance) (by first | exact True.intro | (show _ < _; decide)) rfl rfl (fun y123 h123 => ?_)))))) <;> (try (first | refine g_no rfl (by decide) rfl (by decide) ?_ | refine g_undef rfl rfl (by decide) ?_ | (refine g_yes rfl (by decide) rfl ?_; (first | refine o_mv (v := .slice _ _ _) (by decide) rfl ?_ | refine o_mv (by decide) rfl ?_)) | refine g_noF rfl (by decide) rfl (by assumption) (by decide) ?_ | (refine g_yesT rfl (by decide) rfl (by assumption) ?_; (first | refine o_mv (v := .slice _ _ _) (by decide) rfl ?_ | refine o_mv (by decide) rfl ?_)) | ((refine g_split rfl (by decide) rfl (by decide) ?_ ?_ <;> intro hc); (first | refine o_mv (v := .slice _ _ _) (by decide) rfl ?_ | refine o_mv (by decide) rfl ?_)))) <;> (try (first | refine g_no rfl (by decide) rfl (by decide) ?_ | refine g_undef rfl rfl (by decide) ?_ | (refine g_yes rfl (by decide) rfl ?_; ((refine o_callH (sameRT _ y123.1 (some wd) [(r1, r2, r3, 1, r5)] y123.2 wc (show 1 ≤ 1000000 by decide)) (by first | exact True.intro | (show _ < _; decide)) rfl rfl (fun _ _ => ?_)))) | refine g_noF rfl (by decide) rfl (by assumption) (by decide) ?_ | (refine g_yesT rfl (by decide) rfl (by assumption) ?_; ((refine o_callH (sameRT _ y123.1 (some wd) [(r1, r2, r3, 1, r5)] y123.2 wc (show 1 ≤ 1000000 by decide)) (by first | exact True.intro | (show _ < _; decide)) rfl rfl (fun _ _ => ?_)))) | ((refine g_split rfl (by decide) rfl (by decide) ?_ ?_ <;> intro hc); ((refine o_callH (sameRT _ y123.1 (some wd) [(r1, r2, r3, 1, r5)] y123.2 wc (show 1 ≤ 1000000 by decide)) (by first | exact True.intro | (show _ < _; decide)) rfl rfl (fun _ _ => ?_)))))) <;> (try (first | refine o_pick_t (v := .bool _) (by decide) rfl rfl ?_ | refine o_pick_f (v := .bool _) (by decide) rfl rfl ?_)) <;> (try (first | refine o_mv (v := .bool _) (by decide) rfl ?_ | refine o_mv (by decide) rfl ?_)) <;> (try (first | refine g_no rfl (by decide) rfl (by decide) ?_ | refine g_undef rfl rfl (by decide) ?_ | (refine g_yes rfl (by decide) rfl ?_; (first | refine o_mv (v := .pointer _) (by decide) rfl ?_ | refine o_mv (by decide) rfl ?_)) | refine g_noF rfl (by decide) rfl (by assumption) (by decide) ?_ | (refine g_yesT rfl (by decide) rfl (by assumption) ?_; (first | refine o_mv (v := .pointer _) (by decide) rfl ?_ | refine o_mv (by decide) rfl ?_)) | ((refine g_split rfl (by decide) rfl (by decide) ?_ ?_ <;> intro hc); (first | refine o_mv (v := .pointer _) (by decide) rfl ?_ | refine o_mv (by decide) rfl ?_)))) <;> (try (first | refine g_no rfl (by decide) rfl (by decide) ?_ | refine g_undef rfl rfl (by decide) ?_ | (refine g_yes rfl (by decide) rfl ?_; (first | refine o_nil (by decide) rfl ?_ | refine o_nil_func (by decide) rfl ?_)) | refine g_noF rfl (by decide) rfl (by assumption) (by decide) ?_ | (refine g_yesT rfl (by decide) rfl (by assumption) ?_; (first | refine o_nil (by decide) rfl ?_ | refine o_nil_func (by decide) rfl ?_)) | ((refine g_split rfl (by decide) rfl (by decide) ?_ ?_ <;> intro hc); (first | refine o_nil (by decide) rfl ?_ | refine o_nil_func (by decide) rfl ?_)))) <;> (try (first | refine g_no rfl (by decide) rfl (by decide) ?_ | refine g_undef rfl rfl (by decide) ?_ | (refine g_yes rfl (by decide) rfl ?_; (first | refine o_fieldAddr' (by decide) rfl ?_ | refine o_fieldAddrS (by decide) rfl ?_)) | refine g_noF rfl (by decide) rfl (by assumption) (by decide) ?_ | (refine g_yesT rfl (by decide) rfl (by assumption) ?_; (first | refine o_fieldAddr' (by decide) rfl ?_ | refine o_fieldAddrS (by decide) rfl ?_)) | ((refine g_split rfl (by decide) rfl (by decide) ?_ ?_ <;> intro hc); (first | refine o_fieldAddr' (by decide) rfl ?_ | refine o_fieldAddrS (by decide) rfl ?_)))) <;> (try (first | refine g_no rfl (by decide) rfl (by decide) ?_ | refine g_undef rfl rfl (by decide) ?_ | (refine g_yes rfl (by decide) rfl ?_; (first | refine o_load_s (v := .pointer _) (by decide) rfl rfl ?_ | refine o_load_s (by decide) rfl rfl ?_ | refine o_load_r (by decide) rfl (by assumption) ?_ | refine o_load_r (v := .pointer _) (by decide) rfl rfl ?_)) | refine g_noF rfl (by decide) rfl (by assumption) (by decide) ?_ | (refine g_yesT rfl (by decide) rfl (by assumption) ?_; (first | refine o_load_s (v := .pointer _) (by decide) rfl rfl ?_ | refine o_load_s (by decide) rfl rfl ?_ | refine o_load_r (by decide) rfl (by assumption) ?_ | refine o_load_r (v := .pointer _) (by decide) rfl rfl ?_)) | ((refine g_split rfl (by decide) rfl (by decide) ?_ ?_ <;> intro hc); (first | refine o_load_s (v := .pointer _) (by decide) rfl rfl ?_ | refine o_load_s (by decide) rfl rfl ?_ | refine o_load_r (by decide) rfl (by assumption) ?_ | refine o_load_r (v := .pointer _) (by decide) rfl rfl ?_)))) <;> (try (first | refine g_no rfl (by decide) rfl (by decide) ?_ | refine g_undef rfl rfl (by decide) ?_ | (refine g_yes rfl (by decide) rfl ?_; (first | refine o_nil (by decide) rfl ?_ | refine o_nil_func (by decide) rfl ?_)) | refine g_noF rfl (by decide) rfl (by assumption) (by decide) ?_ | (refine g_yesT rfl (by decide) rfl (by assumption) ?_; (first | refine o_nil (by decide) rfl ?_ | refine o_nil_func (by decide) rfl ?_)) | ((refine g_split rfl (by decide) rfl (by decide) ?_ ?_ <;> intro hc); (first | refine o_nil (by decide) rfl ?_ | refine o_nil_func (by decide) rfl ?_)))) <;> (try (first | refine g_no rfl (by decide) rfl (by decide) ?_ | refine g_undef rfl rfl (by decide) ?_ | (refine g_yes rfl (by decide) rfl ?_; (first | refine o_fieldAddr' (by decide) rfl ?_ | refine o_fieldAddrS (by decide) rfl ?_)) | refine g_noF rfl (by decide) rfl (by assumption) (by decide) ?_ | (refine g_yesT rfl (by decide) rfl (by assumption) ?_; (first | refine o_fieldAddr' (by decide) rfl ?_ | refine o_fieldAddrS (by decide) rfl ?_)) | ((refine g_split rfl (by decide) rfl (by decide) ?_ ?_ <;> intro hc); (first | refine o_fieldAddr' (by decide) rfl ?_ | refine o_fieldAddrS (by decide) rfl ?_)))) <;> (try (first | refine g_no rfl (by decide) rfl (by decide) ?_ | refine g_undef rfl rfl (by decide) ?_ | (refine g_yes rfl (by decide) rfl ?_; (refine o_load_a (vs := [.int .i64 mkk, .int .i64 1, .int .i64 2]) (by decide) rfl rfl ?_)) | refine g_noF rfl (by decide) rfl (by assumption) (by decide) ?_ | (refine g_yesT rfl (by decide) rfl (by assumption) ?_; (refine o_load_a (vs := [.int .i64 mkk, .int .i64 1, .int .i64 2]) (by decide) rfl rfl ?_)) | ((refine g_split rfl (by decide) rfl (by decide) ?_ ?_ <;> intro hc); (refine o_load_a (vs := [.int .i64 mkk, .int .i64 1, .int .i64 2]) (by decide) rfl rfl ?_)))) <;> (try (first | refine g_no rfl (by decide) rfl (by decide) ?_ | refine g_undef rfl rfl (by decide) ?_ | (refine g_yes rfl (by decide) rfl ?_; (refine o_call (clLate _ _ _) (by first | exact True.intro | (show _ < _; decide)) rfl rfl (fun _ _ => ?_))) | refine g_noF rfl (by decide) rfl (by assumption) (by decide) ?_ | (refine g_yesT rfl (by decide) rfl (by assumption) ?_; (refine o_call (clLate _ _ _) (by first | exact True.intro | (show _ < _; decide)) rfl rfl (fun _ _ => ?_))) | ((refine g_split rfl (by decide) rfl (by decide) ?_ ?_ <;> intro hc); (refine o_call (clLate _ _ _) (by first | exact True.intro | (show _ < _; decide)) rfl rfl (fun _ _ => ?_))))) <;> (try (first | refine g_no rfl (by decide) rfl (by decide) ?_ | refine g_undef rfl rfl (by decide) ?_ | (refine g_yes rfl (by decide) rfl ?_; (refine o_int (by decide) rfl rfl rfl ?_)) | refine g_noF rfl (by decide) rfl (by assumption) (by decide) ?_ | (refine g_yesT rfl (by decide) rfl (by assumption) ?_; (refine o_int (by decide) rfl rfl rfl ?_)) | ((refine g_split rfl (by decide) rfl (by decide) ?_ ?_ <;> intro hc); (refine o_int (by decide) rfl rfl rfl ?_)))) <;> (try (first | refine o_pick_t (v := .bool _) (by decide) rfl rfl ?_ | refine o_pick_f (v := .bool _) (by decide) rfl rfl ?_)) <;> (try (first | refine o_mv (v := .bool _) (by decide) rfl ?_ | refine o_mv (by decide) rfl ?_)) <;> (try (first | refine g_no rfl (by decide) rfl (by decide) ?_ | refine g_undef rfl rfl (by decide) ?_ | (refine g_yes rfl (by decide) rfl ?_; (first | refine o_mv (v := .pointer _) (by decide) rfl ?_ | refine o_mv (by decide) rfl ?_)) | refine g_noF rfl (by decide) rfl (by assumption) (by decide) ?_ | (refine g_yesT rfl (by decide) rfl (by assumption) ?_; (first | refine o_mv (v := .pointer _) (by decide) rfl ?_ | refine o_mv (by decide) rfl ?_)) | ((refine g_split rfl (by decide) rfl (by decide) ?_ ?_ <;> intro hc); (first | refine o_mv (v := .pointer _) (by decide) rfl ?_ | refine o_mv (by decide) rfl ?_)))) <;> (try (first | refine g_no rfl (by decide) rfl (by decide) ?_ | refine g_undef rfl rfl (by decide) ?_ | (refine g_yes rfl (by decide) rfl ?_; (first | refine o_nil (by decide) rfl ?_ | refine o_nil_func (by decide) rfl ?_)) | refine g_noF rfl (by decide) rfl (by assumption) (by decide) ?_ | (refine g_yesT rfl (by decide) rfl (by assumption) ?_; (first | refine o_nil (by decide) rfl ?_ | refine o_nil_func (by decide) rfl ?_)) | ((refine g_split rfl (by decide) rfl (by decide) ?_ ?_ <;> intro hc); (first | refine o_nil (by decide) rfl ?_ | refine o_nil_func (by decide) rfl ?_)))) <;> (try (first | refine g_no rfl (by decide) rfl (by decide) ?_ | refine g_undef rfl rfl (by decide) ?_ | (refine g_yes rfl (by decide) rfl ?_; (first | refine o_fieldAddr' (by decide) rfl ?_ | refine o_fieldAddrS (by decide) rfl ?_)) | refine g_noF rfl (by decide) rfl (by assumption) (by decide) ?_ | (refine g_yesT rfl (by decide) rfl (by assumption) ?_; (first | refine o_fieldAddr' (by decide) rfl ?_ | refine o_fieldAddrS (by decide) rfl ?_)) | ((refine g_split rfl (by decide) rfl (by decide) ?_ ?_ <;> intro hc); (first | refine o_fieldAddr' (by decide) rfl ?_ | refine o_fieldAddrS (by decide) rfl ?_)))) <;> (try (first | refine g_no rfl (by decide) rfl (by decide) ?_ | refine g_undef rfl rfl (by decide) ?_ | (refine g_yes rfl (by decide) rfl ?_; (first | refine o_load_s (v := .pointer _) (by decide) rfl rfl ?_ | refine o_load_s (by decide) rfl rfl ?_ | refine o_load_r (by decide) rfl (by assumption) ?_ | refine o_load_r (v := .pointer _) (by decide) rfl rfl ?_)) | refine g_noF rfl (by decide) rfl (by assumption) (by decide) ?_ | (refine g_yesT rfl (by decide) rfl (by assumption) ?_; (first | refine o_load_s (v := .pointer _) (by decide) rfl rfl ?_ | refine o_load_s (by decide) rfl rfl ?_ | refine o_load_r (by decide) rfl (by assumption) ?_ | refine o_load_r (v := .pointer _) (by decide) rfl rfl ?_)) | ((refine g_split rfl (by decide) rfl (by decide) ?_ ?_ <;> intro hc); (first | refine o_load_s (v := .pointer _) (by decide) rfl rfl ?_ | refine o_load_s (by decide) rfl rfl ?_ | refine o_load_r (by decide) rfl (by assumption) ?_ | refine o_load_r (v := .pointer _) (by decide) rfl rfl ?_)))) <;> (try (first | refine g_no rfl (by decide) rfl (by decide) ?_ | refine g_undef rfl rfl (by decide) ?_ | (refine g_yes rfl (by decide) rfl ?_; (first | refine o_nil (by decide) rfl ?_ | refine o_nil_func (by decide) rfl ?_)) | refine g_noF rfl (by decide) rfl (by assumption) (by decide) ?_ | (refine g_yesT rfl (by decide) rfl (by assumption) ?_; (first | refine o_nil (by decide) rfl ?_ | refine o_nil_func (by decide) rfl ?_)) | ((refine g_split rfl (by decide) rfl (by decide) ?_ ?_ <;> intro hc); (first | refine o_nil (by decide) rfl ?_ | refine o_nil_func (by decide) rfl ?_)))) <;> (try (first | refine g_no rfl (by decide) rfl (by decide) ?_ | refine g_undef rfl rfl (by decide) ?_ | (refine g_yes rfl (by decide) rfl ?_; (first | refine o_fieldAddr' (by decide) rfl ?_ | refine o_fieldAddrS (by decide) rfl ?_)) | refine g_noF rfl (by decide) rfl (by assumption) (by decide) ?_ | (refine g_yesT rfl (by decide) rfl (by assumption) ?_; (first | refine o_fieldAddr' (by decide) rfl ?_ | refine o_fieldAddrS (by decide) rfl ?_)) | ((refine g_split rfl (by decide) rfl (by decide) ?_ ?_ <;> intro hc); (first | refine o_fieldAddr' (by decide) rfl ?_ | refine o_fieldAddrS (by decide) rfl ?_)))) <;> (try (first | refine g_no rfl (by decide) rfl (by decide) ?_ | refine g_undef rfl rfl (by decide) ?_ | (refine g_yes rfl (by decide) rfl ?_; (refine o_load_a (vs := [.int .i64 mkk, .int .i64 1, .int .i64 2]) (by decide) rfl rfl ?_)) | refine g_noF rfl (by decide) rfl (by assumption) (by decide) ?_ | (refine g_yesT rfl (by decide) rfl (by assumption) ?_; (refine o_load_a (vs := [.int .i64 mkk, .int .i64 1, .int .i64 2]) (by decide) rfl rfl ?_)) | ((refine g_split rfl (by decide) rfl (by decide) ?_ ?_ <;> intro hc); (refine o_load_a (vs := [.int .i64 mkk, .int .i64 1, .int .i64 2]) (by decide) rfl rfl ?_)))) <;> (try (first | refine g_no rfl (by decide) rfl (by decide) ?_ | refine g_undef rfl rfl (by decide) ?_ | (refine g_yes rfl (by decide) rfl ?_; (refine o_call (clSeen _ _ _) (by first | exact True.intro | (show _ < _; decide)) rfl rfl (fun _ _ => ?_))) | refine g_noF rfl (by decide) rfl (by assumption) (by decide) ?_ | (refine g_yesT rfl (by decide) rfl (by assumption) ?_; (refine o_call (clSeen _ _ _) (by first | exact True.intro | (show _ < _; decide)) rfl rfl (fun _ _ => ?_))) | ((refine g_split rfl (by decide) rfl (by decide) ?_ ?_ <;> intro hc); (refine o_call (clSeen _ _ _) (by first | exact True.intro | (show _ < _; decide)) rfl rfl (fun _ _ => ?_))))) <;> (try (first | refine g_no rfl (by decide) rfl (by decide) ?_ | refine g_undef rfl rfl (by decide) ?_ | (refine g_yes rfl (by decide) rfl ?_; (refine o_int (by decide) rfl rfl rfl ?_)) | refine g_noF rfl (by decide) rfl (by assumption) (by decide) ?_ | (refine g_yesT rfl (by decide) rfl (by assumption) ?_; (refine o_int (by decide) rfl rfl rfl ?_)) | ((refine g_split rfl (by decide) rfl (by decide) ?_ ?_ <;> intro hc); (refine o_int (by decide) rfl rfl rfl ?_)))) <;> (try (first | refine o_pick_t (v := .bool _) (by decide) rfl rfl ?_ | refine o_pick_f (v := .bool _) (by decide) rfl rfl ?_)) <;> (try (first | refine o_mv (v := .bool _) (by decide) rfl ?_ | refine o_mv (by decide) rfl ?_)) <;> (try (first | refine g_no rfl (by decide) rfl (by decide) ?_ | refine g_undef rfl rfl (by decide) ?_ | (refine g_yes rfl (by decide) rfl ?_; (first | refine o_mv (v := .pointer _) (by decide) rfl ?_ | refine o_mv (by decide) rfl ?_)) | refine g_noF rfl (by decide) rfl (by assumption) (by decide) ?_ | (refine g_yesT rfl (by decide) rfl (by assumption) ?_; (first | refine o_mv (v := .pointer _) (by decide) rfl ?_ | refine o_mv (by decide) rfl ?_)) | ((refine g_split rfl (by decide) rfl (by decide) ?_ ?_ <;> intro hc); (first | refine o_mv (v := .pointer _) (by decide) rfl ?_ | refine o_mv (by decide) rfl ?_)))) <;> (try (first | refine g_no rfl (by decide) rfl (by decide) ?_ | refine g_undef rfl rfl (by decide) ?_ | (refine g_yes rfl (by decide) rfl ?_; (first | refine o_nil (by decide) rfl ?_ | refine o_nil_func (by decide) rfl ?_)) | refine g_noF rfl (by decide) rfl (by assumption) (by decide) ?_ | (refine g_yesT rfl (by decide) rfl (by assumption) ?_; (first | refine o_nil (by decide) rfl ?_ | refine o_nil_func (by decide) rfl ?_)) | ((refine g_split rfl (by decide) rfl (by decide) ?_ ?_ <;> intro hc); (first | refine o_nil (by decide) rfl ?_ | refine o_nil_func (by decide) rfl ?_)))) <;> (try (first | refine g_no rfl (by decide) rfl (by decide) ?_ | refine g_undef rfl rfl (by decide) ?_ | (refine g_yes rfl (by decide) rfl ?_; (first | refine o_fieldAddr' (by decide) rfl ?_ | refine o_fieldAddrS (by decide) rfl ?_)) | refine g_noF rfl (by decide) rfl (by assumption) (by decide) ?_ | (refine g_yesT rfl (by decide) rfl (by assumption) ?_; (first | refine o_fieldAddr' (by decide) rfl ?_ | refine o_fieldAddrS (by decide) rfl ?_)) | ((refine g_split rfl (by decide) rfl (by decide) ?_ ?_ <;> intro hc); (first | refine o_fieldAddr' (by decide) rfl ?_ | refine o_fieldAddrS (by decide) rfl ?_)))) <;> (try (first | refine g_no rfl (by decide) rfl (by decide) ?_ | refine g_undef rfl rfl (by decide) ?_ | (refine g_yes rfl (by decide) rfl ?_; (first | refine o_load_s (v := .pointer _) (by decide) rfl rfl ?_ | refine o_load_s (by decide) rfl rfl ?_ | refine o_load_r (by decide) rfl (by assumption) ?_ | refine o_load_r (v := .pointer _) (by decide) rfl rfl ?_)) | refine g_noF rfl (by decide) rfl (by assumption) (by decide) ?_ | (refine g_yesT rfl (by decide) rfl (by assumption) ?_; (first | refine o_load_s (v := .pointer _) (by decide) rfl rfl ?_ | refine o_load_s (by decide) rfl rfl ?_ | refine o_load_r (by decide) rfl (by assumption) ?_ | refine o_load_r (v := .pointer _) (by decide) rfl rfl ?_)) | ((refine g_split rfl (by decide) rfl (by decide) ?_ ?_ <;> intro hc); (first | refine o_load_s (v := .pointer _) (by decide) rfl rfl ?_ | refine o_load_s (by decide) rfl rfl ?_ | refine o_load_r (by decide) rfl (by assumption) ?_ | refine o_load_r (v := .pointer _) (by decide) rfl rfl ?_)))) <;> (try (first | refine g_no rfl (by decide) rfl (by decide) ?_ | refine g_undef rfl rfl (by decide) ?_ | (refine g_yes rfl (by decide) rfl ?_; (first | refine o_nil (by decide) rfl ?_ | refine o_nil_func (by decide) rfl ?_)) | refine g_noF rfl (by decide) rfl (by assumption) (by decide) ?_ | (refine g_yesT rfl (by decide) rfl (by assumption) ?_; (first | refine o_nil (by decide) rfl ?_ | refine o_nil_func (by decide) rfl ?_)) | ((refine g_split rfl (by decide) rfl (by decide) ?_ ?_ <;> intro hc); (first | refine o_nil (by decide) rfl ?_ | refine o_nil_func (by decide) rfl ?_)))) <;> (try (first | refine g_no rfl (by decide) rfl (by decide) ?_ | refine g_undef rfl rfl (by decide) ?_ | (refine g_yes rfl (by decide) rfl ?_; (first | refine o_fieldAddr' (by decide) rfl ?_ | refine o_fieldAddrS (by decide) rfl ?_)) | refine g_noF rfl (by decide) rfl (by assumption) (by decide) ?_ | (refine g_yesT rfl (by decide) rfl (by assumption) ?_; (first | refine o_fieldAddr' (by decide) rfl ?_ | refine o_fieldAddrS (by decide) rfl ?_)) | ((refine g_split rfl (by decide) rfl (by decide) ?_ ?_ <;> intro hc); (first | refine o_fieldAddr' (by decide) rfl ?_ | refine o_fieldAddrS (by decide) rfl ?_)))) <;> (try (first | refine g_no rfl (by decide) rfl (by decide) ?_ | refine g_undef rfl rfl (by decide) ?_ | (refine g_yes rfl (by decide) rfl ?_; (first | refine o_load_s (v := .pointer _) (by decide) rfl rfl ?_ | refine o_load_s (by decide) rfl rfl ?_ | refine o_load_r (by decide) rfl (by assumption) ?_ | refine o_load_r (v := .pointer _) (by decide) rfl rfl ?_)) | refine g_noF rfl (by decide) rfl (by assumption) (by decide) ?_ | (refine g_yesT rfl (by decide) rfl (by assumption) ?_; (first | refine o_load_s (v := .pointer _) (by decide) rfl rfl ?_ | refine o_load_s (by decide) rfl rfl ?_ | refine o_load_r (by decide) rfl (by assumption) ?_ | refine o_load_r (v := .pointer _) (by decide) rfl rfl ?_)) | ((refine g_split rfl (by decide) rfl (by decide) ?_ ?_ <;> intro hc); (first | refine o_load_s (v := .pointer _) (by decide) rfl rfl ?_ | refine o_load_s (by decide) rfl rfl ?_ | refine o_load_r (by decide) rfl (by assumption) ?_ | refine o_load_r (v := .pointer _) (by decide) rfl rfl ?_)))) <;> (try (first | refine g_no rfl (by decide) rfl (by decide) ?_ | refine g_undef rfl rfl (by decide) ?_ | (refine g_yes rfl (by decide) rfl ?_; ((refine o_callH (hlen _ _ inferInstance) (by first | exact True.intro | (show _ < _; decide)) rfl rfl (fun _ _ => ?_)))) | refine g_noF rfl (by decide) rfl (by assumption) (by decide) ?_ | (refine g_yesT rfl (by decide) rfl (by assumption) ?_; ((refine o_callH (hlen _ _ inferInstance) (by first | exact True.intro | (show _ < _; decide)) rfl rfl (fun _ _ => ?_)))) | ((refine g_split rfl (by decide) rfl (by decide) ?_ ?_ <;> intro hc); ((refine o_callH (hlen _ _ inferInstance) (by first | exact True.intro | (show _ < _; decide)) rfl rfl (fun _ _ => ?_)))))) <;> (try (first | refine g_no rfl (by decide) rfl (by decide) ?_ | refine g_undef rfl rfl (by decide) ?_ | (refine g_yes rfl (by decide) rfl ?_; (refine o_int (by decide) rfl rfl rfl ?_)) | refine g_noF rfl (by decide) rfl (by assumption) (by decide) ?_ | (refine g_yesT rfl (by decide) rfl (by assumption) ?_; (refine o_int (by decide) rfl rfl rfl ?_)) | ((refine g_split rfl (by decide) rfl (by decide) ?_ ?_ <;> intro hc); (refine o_int (by decide) rfl rfl rfl ?_)))) <;> (try (first | refine o_pick_t (v := .bool _) (by decide) rfl rfl ?_ | refine o_pick_f (v := .bool _) (by decide) rfl rfl ?_)) <;> (try (first | refine o_mv (v := .bool _) (by decide) rfl ?_ | refine o_mv (by decide) rfl ?_)) <;> (try (first | refine g_no rfl (by decide) rfl (by decide) ?_ | refine g_undef rfl rfl (by decide) ?_ | (refine g_yes rfl (by decide) rfl ?_; ((refine o_call awakeK (by first | exact True.intro | (show _ < _; decide)) rfl rfl (fun _ _ => ?_)))) | refine g_noF rfl (by decide) rfl (by assumption) (by decide) ?_ | (refine g_yesT rfl (by decide) rfl (by assumption) ?_; ((refine o_call awakeK (by first | exact True.intro | (show _ < _; decide)) rfl rfl (fun _ _ => ?_)))) | ((refine g_split rfl (by decide) rfl (by decide) ?_ ?_ <;> intro hc); ((refine o_call awakeK (by first | exact True.intro | (show _ < _; decide)) rfl rfl (fun _ _ => ?_)))))) <;> (try (first | refine o_pick_t (v := .bool _) (by decide) rfl rfl ?_ | refine o_pick_f (v := .bool _) (by decide) rfl rfl ?_)) <;> (try (first | refine o_as (v := .bool _) (by decide) rfl ?_ | refine o_as (by decide) rfl ?_)) <;> (try (refine ops_nilk ?_; intro _)) <;> (try ((first | refine keep_cons (v := .bool _) rfl ?_ | refine keep_cons (v := _) rfl ?_))) <;> (try refine keep_nil ?_))) | refine wC ?_ | (refine ex_split rfl ?_ ?_ <;> intro hc))
      exact fin (.inr rfl) () (resl1 rfl (rv_tmp rfl)) trivial (Ent.toOne _)
end Go.Proofs.YtcelailgedndnaaGreatS
