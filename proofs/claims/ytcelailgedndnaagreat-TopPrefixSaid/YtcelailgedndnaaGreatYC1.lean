/- Contracts of the functions that the statement reaches: the walk of the program by the small logic, part 1: P1, P2, P3. No condition beyond what each theorem states. -/
import Derived.Test.YtcelailgedndnaaGreatZ8
namespace Go.Proofs.YtcelailgedndnaaGreatS
open Go.RowKit
set_option linter.unusedVariables false
set_option linter.unusedSimpArgs false
/-- What an act may do to a tenant's cell that is there: R holds of each step, and of steps in a row. -/
structure Mv (ss : List Sk) (R : Nat → Cd → Cd → Prop) : Prop where
  refl : ∀ t c, R t c c
  trans : ∀ t a b c, R t a b → R t b c → R t a c
  off : ∀ (t : Nat) room i c, c.id = (t : Int) → R t c (offer room i c).1
  srv : ∀ t n c, R t c (serve n c).1
  fed : ∀ t i k p tick c, ss[i]? = some k → few p k = false → R t c (feed1 k (rel i k p tick) t c)
def RS (R : Nat → Cd → Cd → Prop) (s s' : Cs) : Prop := s'.sinks = s.sinks ∧ ∀ t, (cell s t = none ∧ cell s' t = none) ∨ ∃ c d, cell s t = some c ∧ cell s' t = some d ∧ R t c d
section
variable {R : Nat → Cd → Cd → Prop} {ss : List Sk}
theorem RS.same (m : Mv ss R) {s s' : Cs} (h1 : s'.sinks = s.sinks) (h2 : ∀ t, cell s' t = cell s t) : RS R s s' := ⟨h1, fun t => by
  rw [h2]
  cases h : cell s t with
  | none => exact .inl ⟨rfl, rfl⟩
  | some c => exact .inr ⟨c, c, rfl, rfl, m.refl t c⟩⟩
theorem RS.trans (m : Mv ss R) {a b c : Cs} (h1 : RS R a b) (h2 : RS R b c) : RS R a c := ⟨h2.1.trans h1.1, fun t => by
  rcases h1.2 t with ⟨x1, x2⟩ | ⟨c1, c2, x1, x2, x3⟩
  · rcases h2.2 t with ⟨y1, y2⟩ | ⟨d1, d2, y1, y2, y3⟩
    · exact .inl ⟨x1, y2⟩
    · rw [x2] at y1; cases y1
  · rcases h2.2 t with ⟨y1, y2⟩ | ⟨d1, d2, y1, y2, y3⟩
    · rw [x2] at y1; cases y1
    · rw [x2] at y1
      obtain rfl := Option.some.inj y1
      exact .inr ⟨c1, d2, x1, y2, m.trans t _ _ _ x3 y3⟩⟩
theorem serve1_rs (m : Mv ss R) (t : Nat) (k : Int) (s : Cs) : RS R s (serve1 t k s) := by
  cases hc : cell s t with
  | none => rw [serve1_none hc]; exact RS.same m rfl fun _ => rfl
  | some c =>
    rw [serve1_some hc]
    refine ⟨rfl, fun u => ?_⟩
    rw [cell_set (cell_lt hc)]
    by_cases hu : u = t
    · subst hu
      rw [if_pos rfl]
      exact .inr ⟨c, _, hc, rfl, m.srv _ _ _⟩
    · rw [if_neg hu]
      cases h : cell s u with
      | none => exact .inl ⟨rfl, rfl⟩
      | some d => exact .inr ⟨d, d, rfl, rfl, m.refl u d⟩
theorem fold_rs (m : Mv ss R) {α : Type} (f : Cs → α → Cs) (hf : ∀ s x, s.sinks = ss → RS R s (f s x)) : ∀ (l : List α) (s : Cs), s.sinks = ss → RS R s (l.foldl f s)
  | [], s, _ => RS.same m rfl fun _ => rfl
  | x :: l, s, h => by
    have h1 := hf s x h
    exact h1.trans m (fold_rs m f hf l (f s x) (h1.1.trans h))
theorem tick1_rs (m : Mv ss R) (i : Nat) (s : Cs) (hs : s.sinks = ss) : RS R s (tick1 i s) := by
  unfold tick1
  cases hk : s.sinks[i]? with
  | none => exact RS.same m rfl fun _ => rfl
  | some k =>
    cases hp : s.pots[i]? with
    | none => exact RS.same m rfl fun _ => rfl
    | some p =>
      simp only
      split
      · cases hw : few p.2 k with
        | true => rw [if_pos rfl]; exact RS.same m rfl fun _ => rfl
        | false =>
          rw [if_neg (by simp)]
          refine ⟨rfl, fun t => ?_⟩
          rw [cell_feed]
          show (cell s t = none ∧ (cell s t).map _ = none) ∨ _
          cases h : cell s t with
          | none => exact .inl ⟨rfl, rfl⟩
          | some c => exact .inr ⟨c, _, rfl, (congrArg (Option.map _) h), m.fed t i k p.2 s.ticks c (hs ▸ hk) hw⟩
      · exact RS.same m rfl fun _ => rfl
theorem tickS_rs (m : Mv ss R) (s : Cs) (hs : s.sinks = ss) : RS R s (tickS s) := by
  have h1 : RS R s (serveAll s) := fold_rs m _ (fun x t _ => serve1_rs m t _ x) _ s hs
  have h2 : RS R (serveAll s) { serveAll s with ticks := IntKind.i64.wrap (s.ticks + 1) } := RS.same m rfl fun _ => rfl
  have h3 := h1.trans m h2
  exact h3.trans m (fold_rs m _ (fun x i hx => tick1_rs m i x hx) _ _ (h3.1.trans hs))
/-- What an act does to each tenant's cell. -/
theorem do_step {s : Cs} {n : Nat} (ok : CsOk s n) (m : Mv s.sinks R) (a : Ac) (t : Nat) : (cell s t = none ∧ cell (doS a s).1 t = none) ∨ (∃ c d, cell s t = some c ∧ cell (doS a s).1 t = some d ∧ R t c d) ∨
    (cell s t = none ∧ ∃ p, mayP (t : Int) p s.sinks = true ∧ cell (doS a s).1 t = some (newCd (t : Int) s.qu p)) := by
  have same : ∀ s', (∀ u, cell s' u = cell s u) → (cell s t = none ∧ cell s' t = none) ∨ (∃ c d, cell s t = some c ∧ cell s' t = some d ∧ R t c d) ∨ (cell s t = none ∧ ∃ p, mayP (t : Int) p s.sinks = true ∧ cell s' t = some (newCd (t : Int) s.qu p)) := fun s' h2 => by
    rw [h2]
    cases h : cell s t with
    | none => exact .inl ⟨rfl, rfl⟩
    | some c => exact .inr (.inl ⟨c, c, rfl, rfl, m.refl t c⟩)
  obtain ⟨kd, tn, fr, nn, p, i⟩ := a
  unfold doS
  split
  · show (cell s t = none ∧ cell (register tn p s).1 t = none) ∨ (∃ c d, cell s t = some c ∧ cell (register tn p s).1 t = some d ∧ R t c d) ∨ (cell s t = none ∧ ∃ p', mayP (t : Int) p' s.sinks = true ∧ cell (register tn p s).1 t = some (newCd (t : Int) s.qu p'))
    unfold register
    split
    · exact same _ fun _ => rfl
    · rename_i h7
      have h7 : 0 ≤ tn ∧ tn ≤ 7 := Decidable.not_not.1 h7
      split
      · exact same _ fun _ => rfl
      · rename_i hsome
        split
        · exact same _ fun _ => rfl
        · rename_i hmay
          have hmay : mayP tn p s.sinks = true := by simpa using hmay
          have hcs := cell_set (s := s) (t := tn.toNat) (x := some (newCd tn s.qu p)) (P := s.pots) (by rw [ok.c8]; omega) t
          simp only
          rw [hcs]
          by_cases hu : t = tn.toNat
          · rw [if_pos hu]
            have htn : ((t : Nat) : Int) = tn := by omega
            refine .inr (.inr ⟨?_, p, by rw [htn]; exact hmay, by rw [htn]⟩)
            rw [hu]
            cases hcc : cell s tn.toNat with
            | none => rfl
            | some c => rw [hcc] at hsome; simp at hsome
          · rw [if_neg hu]
            exact same s fun _ => rfl
  · split
    · rcases (tickS_rs m s rfl).2 t with h | h
      · exact .inl h
      · exact .inr (.inl h)
    · split
      · exact same _ fun _ => rfl
      · split
        · exact same _ fun _ => rfl
        · cases hc : cellI s tn with
          | none => exact same s fun _ => rfl
          | some c =>
            simp only [hc]
            split
            · have h7 : 0 ≤ tn ∧ tn ≤ 7 := by
                unfold cellI at hc
                split at hc
                · assumption
                · cases hc
              have hc' : cell s tn.toNat = some c := by
                unfold cellI at hc
                rwa [if_pos h7] at hc
              have hcs := cell_set (s := s) (t := tn.toNat) (x := some (offer s.ro i c).1) (P := s.pots) (by rw [ok.c8]; omega) t
              simp only
              rw [hcs]
              by_cases hu : t = tn.toNat
              · rw [if_pos hu, hu, hc']
                exact .inr (.inl ⟨c, _, rfl, rfl, m.off _ _ _ _ (ok.cell _ _ hc').2.2⟩)
              · rw [if_neg hu]
                exact same s fun _ => rfl
            · exact same s fun _ => rfl
end
/-! ### The rows are what the pipe makes of what was taken -/
theorem rnTake_app (r : Ru) (l m : List In) : rnTake r (l ++ m) = ((rnTake (rnTake r l).1 m).1, (rnTake r l).2 ++ (rnTake (rnTake r l).1 m).2) := by
  refine snoc_ind (P := fun m => rnTake r (l ++ m) = ((rnTake (rnTake r l).1 m).1, (rnTake r l).2 ++ (rnTake (rnTake r l).1 m).2)) ?_ (fun m i ih => ?_) m
  · rw [List.append_nil]; show _ = ((rnTake r l).1, (rnTake r l).2 ++ []); rw [List.append_nil]
  · rw [← List.append_assoc, rnTake_snoc, ih, rnTake_snoc, List.append_assoc]
def Tel (c : Cd) : Prop := rnTake (newRu c.run.pp) c.taken = (c.run, c.rows)
theorem tel_new (id most : Int) (p : Pp) : Tel (newCd id most p) := rfl
theorem tel_serve {c : Cd} (h : Tel c) (n : Int) : Tel (serve n c).1 := by
  unfold Tel at *
  rw [serve_pp]
  show rnTake (newRu c.run.pp) (c.taken ++ c.q.take (pk n c.q.length)) = _
  rw [rnTake_app, h]
  rfl
theorem feed1_q (k : Sk) (r : Bd.Rl) (t : Nat) (c : Cd) : (feed1 k r t c).run = c.run ∧ (feed1 k r t c).taken = c.taken ∧ (feed1 k r t c).rows = c.rows := by
  unfold feed1 feedC
  split
  · split <;> exact ⟨rfl, rfl, rfl⟩
  · exact ⟨rfl, rfl, rfl⟩
theorem offer_q (room : Int) (i : In) (c : Cd) : (offer room i c).1.run = c.run ∧ (offer room i c).1.taken = c.taken ∧ (offer room i c).1.rows = c.rows := by
  unfold offer refuse
  split
  · exact ⟨rfl, rfl, rfl⟩
  · split
    · exact ⟨rfl, rfl, rfl⟩
    · split <;> exact ⟨rfl, rfl, rfl⟩
def Gw (t : Nat) (c d : Cd) : Prop := (Tel c → Tel d) ∧ ∃ r, d.rows = c.rows ++ r
theorem gw_mv (ss : List Sk) : Mv ss Gw where
  refl := fun t c => ⟨id, [], (List.append_nil _).symm⟩
  trans := fun t a b c ⟨h1, r1, e1⟩ ⟨h2, r2, e2⟩ => ⟨fun h => h2 (h1 h), r1 ++ r2, by rw [e2, e1, List.append_assoc]⟩
  off := fun t room i c _ => by
    obtain ⟨e1, e2, e3⟩ := offer_q room i c
    exact ⟨fun h => by unfold Tel at *; rw [e1, e2, e3]; exact h, [], by rw [e3, List.append_nil]⟩
  srv := fun t n c => ⟨fun h => tel_serve h n, _, rfl⟩
  fed := fun t i k p tick c _ _ => by
    obtain ⟨e1, e2, e3⟩ := feed1_q k (rel i k p tick) t c
    exact ⟨fun h => by unfold Tel at *; rw [e1, e2, e3]; exact h, [], by rw [e3, List.append_nil]⟩
/-- Each tenant's rows are told by what it took. -/
def TelS (s : Cs) : Prop := ∀ t c, cell s t = some c → Tel c
theorem tel_do {s : Cs} {n : Nat} (ok : CsOk s n) (h : TelS s) (a : Ac) : TelS (doS a s).1 := fun t d hd => by
  rcases do_step ok (gw_mv s.sinks) a t with ⟨_, h2⟩ | ⟨c, d', h1, h2, h3⟩ | ⟨_, p, _, h2⟩
  · rw [h2] at hd; cases hd
  · rw [h2] at hd; obtain rfl := Option.some.inj hd; exact h3.1 (h t c h1)
  · rw [h2] at hd; obtain rfl := Option.some.inj hd; exact tel_new _ _ _
end Go.Proofs.YtcelailgedndnaaGreatS
namespace Go.Proofs.YtcelailgedndnaaGreatS
open Go.RowKit
set_option linter.unusedVariables false
set_option linter.unusedSimpArgs false
theorem CdOk.rle {c : Cd} {n : Nat} (h : CdOk c n) : c.rows.length ≤ 8 * n := by
  have := h.pan
  have := h.ins
  omega
theorem CsOk.rle {s : Cs} {n : Nat} (h : CsOk s n) (t : Int) : (rowsOf s t).length ≤ 8 * n := by
  unfold rowsOf
  cases hc : cellI s t with
  | none => exact Nat.zero_le _
  | some c =>
    unfold cellI at hc
    split at hc
    · exact (h.cell _ _ hc).1.rle
    · cases hc
set_option linter.unusedVariables false
set_option linter.unusedSimpArgs false
attribute [local irreducible] Ops Ex Spec T V QO OA Rn OS
set_option maxHeartbeats 8000000 in
theorem wholeRows (H : HP) (p : Pp) (a : Option Addr) (cap : Nat) (ia : Option Addr) (l : List In) (ic : Nat) [hr : RdC H a (p.1.flatMap oc)] [hi : RdC H ia (l.flatMap inc)] (hp : pir p = true) (hn : 8 * l.length ≤ 100000) :
    Spec Tryz.prog 26 [.agg (ppc a cap p).toArray, .slice ia l.length ic] H (X := Option Addr × Nat) (fun y => .slice y.1 (rnTake (newRu p) l).2.length y.2) (fun y => (rnTake (newRu p) l).2.length ≤ y.2)
      (fun y => ow 67 5 y.1 (rnTake (newRu p) l).2.length y.2 ((rnTake (newRu p) l).2.flatMap rwc) * H) := by
  have hl6 := pir_len hp
  have hnew := fun (H' : HP) (h : RdC H' a (p.1.flatMap oc)) => ruNew H' p a cap (hr := h) hp (by omega)
  have hok : RuOk (newRu p) 0 := ⟨by show p.1.length ≤ 100; omega, by show (([] : Pm).map (·.1)).Nodup; simp, Nat.le_refl _⟩
  have htk := fun (rb pb mb : Nat) (oa : Option Addr) (ocp : Nat) (X' H' : HP) (h : Take (RR rb pb mb oa ocp (newRu p)) X' H') (h2 : RdC H' ia (l.flatMap inc)) => ruTake rb pb mb oa ocp (newRu p) ia l ic (t := h) (hr := h2) hok (by omega)
  refine spec_of Tryz.func26 rfl Tryz.ntmps26 rfl ?_
  repeat' (first | (refine rG 0 [1, 2] ?_; ((try ((refine o_box (by decide) (v := .agg (ppc a cap p).toArray) rfl rfl (fun b2 => ?_)))) <;> (try (refine wK ?_; intro _)))) | (refine ex_regk (id := 1) (ts := [1, 5]) ?_; ((try (refine o_load_a (vs := ppc a cap p) (by decide) rfl rfl ?_)) <;> (try ((refine o_callH (hnew _ inferInstance) (by first | exact True.intro | (show _ < _; decide)) rfl rfl (fun y _ => ?_); obtain ⟨rb, pb, mb, oa, ocp⟩ := y))) <;> (try (first | refine o_as (v := .pointer _) (by decide) rfl ?_ | refine o_as (by decide) rfl ?_)) <;> (try (refine ops_nilk ?_; intro _)) <;> (try ((first | refine keep_cons (v := .slice _ _ _) rfl ?_ | refine keep_cons (v := _) rfl ?_) <;> (first | refine keep_cons (v := .pointer _) rfl ?_ | refine keep_cons (v := _) rfl ?_))) <;> (try refine keep_nil ?_))) | (refine rG 2 [1, 5, 9] ?_; ((try (refine wK ?_; intro _)))) | refine wC ?_ | (refine ex_split rfl ?_ ?_ <;> intro hc))
  repeat' (first | (refine rG 4 [4] ?_; ((try refine wO ?_) <;> (try ((refine o_callH (htk rb pb mb oa ocp _ _ inferInstance inferInstance) (by first | exact True.intro | (show _ < _; decide)) rfl rfl (fun y hy => ?_); obtain ⟨ya, yc⟩ := y))) <;> (try (refine wK ?_; intro _)))) | refine wC ?_ | (refine ex_split rfl ?_ ?_ <;> intro hc))
  refine fin (.inr rfl) (ya, yc) (resl1 rfl (rv_tmp rfl)) hy ?_
  exact ent_take
theorem wholePrefix (H : HP) (a b : Option Addr) (l r : List Rw) (ca cb : Nat) [ha : RdC H a (l.flatMap rwc)] [hb : RdC H b ((l ++ r).flatMap rwc)] (hc : (l ++ r).length ≤ cb) (hl : l.length ≤ 1000000) :
    Spec Tryz.prog 34 [.slice a l.length ca, .slice b (l ++ r).length cb] H (X := Unit) (fun _ => .bool true) (fun _ => True) (fun _ => H) := by
  have hd : decide ((l.length : Int) ≤ ((l ++ r).length : Int)) = true := decide_eq_true (by rw [List.length_append]; omega)
  have hlr : l.length ≤ (l ++ r).length := by rw [List.length_append]; omega
  have htk : (l ++ r).take l.length = l := by simp
  have hq := fun (b' : Option Addr) (cb' : Nat) (h : RdC H b' (((l ++ r).take l.length).flatMap rwc)) => sameQ H a b' l ((l ++ r).take l.length) ca cb' (hb := h) rfl rfl hl
  rw [htk, decide_eq_true rfl] at hq
  refine spec_of Tryz.func34 rfl Tryz.ntmps34 rfl ?_
  repeat' (first | (refine rG 0 [0, 1] ?_; ((try (refine wK ?_; intro _)))) | (refine rG 1 [4] ?_; ((try refine wO ?_) <;> (repeat' (refine g_split rfl (by decide) rfl (by decide) ?_ ?_ <;> intro hc <;> (try refine wO ?_))) <;> (try ((refine o_takeT (cells := rwc) (xs := l ++ r) (t := l.length) rwc_len (by decide) rfl rfl rfl hlr hc (fun b' hb' => ?_); rw [htk] at hb' ⊢))) <;> (try refine wO ?_) <;> (repeat' (refine g_split rfl (by decide) rfl (by decide) ?_ ?_ <;> intro hc <;> (try refine wO ?_))) <;> (try (refine o_callH (hq _ _ (hb' _)) (by first | exact True.intro | (show _ < _; decide)) rfl rfl (fun _ _ => ?_))) <;> (try (refine wK ?_; intro _)))) | refine wC ?_ | (refine ex_split rfl ?_ ?_ <;> intro hc))
  exact fin (.inr rfl) () (resl1 rfl (rv_tmp rfl)) trivial (Ent.refl _)
end Go.Proofs.YtcelailgedndnaaGreatS
namespace Go.Proofs.YtcelailgedndnaaGreatS
open Go.RowKit
set_option linter.unusedVariables false
set_option linter.unusedSimpArgs false
theorem cell_new (bu ro qu : Int) (l : List Sk) (t : Nat) : cell (newCs bu ro qu l) t = none := by
  unfold cell newCs
  simp only [List.getElem?_replicate]
  split <;> rfl
theorem cellI_nat {s : Cs} {t : Int} (h : 0 ≤ t ∧ t ≤ 7) : cellI s t = cell s t.toNat := by unfold cellI; rw [if_pos h]
theorem rdc_Ko {X H K : HP} {oa : Option Addr} {c : List Value} (hK : RdP K oa c) [t : Take K X H] : RdC X oa c := by
  rw [t.eq]
  exact ⟨hK.left H⟩
set_option linter.unusedVariables false
set_option linter.unusedSimpArgs false
attribute [local irreducible] Ops Ex Spec T V QO OA Rn OS
set_option maxRecDepth 100000 in
set_option maxHeartbeats 16000000 in
theorem topPrefix (z : Su) (a1 : Option Addr) (l : List R.Kn) (c1 : Nat) (tn : Int) (hz : z.2.2.2.2.1.length ≤ maxLen) :
    Spec Tryz.prog 8 [.agg (suc z).toArray, .slice a1 l.length c1, .int .i64 tn] (suH z * (rs a1 (l.flatMap R.kac) * pmS l)) (X := Unit) (fun _ => .bool true) (fun _ => True) (fun _ => 1) := by
  obtain ⟨bu, ro, qu, sa, sl, sc0⟩ := z
  have hz : sl.length ≤ maxLen := hz
  show Spec Tryz.prog 8 [.agg (List.toArray [.int .i64 bu, .int .i64 ro, .int .i64 qu, .slice sa sl.length sc0]), .slice a1 l.length c1, .int .i64 tn] (rs sa (sl.flatMap R.kc) * (rs a1 (l.flatMap R.kac) * pmS l)) (X := Unit) (fun _ => .bool true) (fun _ => True) (fun _ => 1)
  have hset := fun (H' : HP) (h : RdC H' sa (sl.flatMap R.kc)) => setupK H' sa sl sc0 bu ro qu (hr := h) hz
  have ok0 := newCs_ok (wn bu 1 4) (wn ro 1 8) (wn qu 0 30) (kS sl) (Nat.le_trans (kS_len sl) (by decide))
  have hq0 : (newCs (wn bu 1 4) (wn ro 1 8) (wn qu 0 30) (kS sl)).qu ≤ 4000 := by
    have b3 := wn_bd qu 0 30 (by omega)
    show wn qu 0 30 ≤ 4000
    omega
  have hc0 := cell_new (wn bu 1 4) (wn ro 1 8) (wn qu 0 30) (kS sl)
  have hnew := fun (sb : Option Addr) (sd : Nat) (H' : HP) (h : RdC H' sb ((kS sl).flatMap sc)) => coNew H' sb (kS sl) sd (wn bu 1 4) (wn ro 1 8) (wn qu 0 30) (hr := h) (Nat.le_trans (kS_len sl) (by decide)) (kS_right bu ro qu sl)
  generalize newCs (wn bu 1 4) (wn ro 1 8) (wn qu 0 30) (kS sl) = s0 at *
  have hacts := fun (X' H' : HP) (h1 : Take (pmS l) X' H') (h2 : RdC X' a1 (l.flatMap R.kac)) => actsK X' a1 c1 l (ha := h2) (rdc_pmS l)
  have bT := wn_bd tn 0 3 (by decide)
  refine spec_of Tryz.func8 rfl Tryz.ntmps8 rfl ?_
  repeat' (first | (refine rG 0 [1, 2, 3] ?_; ((try ((refine o_box (by decide) (v := .agg (List.toArray _)) rfl rfl (fun b5 => ?_)))) <;> (try (refine wK ?_; intro _)))) | (refine rG 1 [1, 2, 7] ?_; ((try refine wO ?_) <;> (try ((refine o_callH (hset _ inferInstance) (by first | exact True.intro | (show _ < _; decide)) rfl rfl (fun y _ => ?_); obtain ⟨sb, sd⟩ := y))) <;> (try ((refine o_alloc_a (by decide) (fun b11 => ?_)))) <;> (try (refine wK ?_; intro _)))) | (refine rG 2 [1, 7, 8] ?_; ((try refine wO ?_) <;> (try (refine o_call (within _ _ _ (by decide) (by decide) (by decide) (by decide)) (by first | exact True.intro | (show _ < _; decide)) rfl rfl (fun _ _ => ?_))) <;> (try (refine wK ?_; intro _)))) | (refine rG 3 [1, 8, 9] ?_; ((try refine wO ?_) <;> (try ((refine o_callH (hnew _ _ _ inferInstance) (by first | exact True.intro | (show _ < _; decide)) rfl rfl (fun b _ => ?_)))) <;> (try (refine wK ?_; intro _)))) | (refine rG 4 [1, 8, 9, 23] ?_; ((try (refine wK ?_; intro _)))) | refine wC ?_ | (refine ex_split rfl ?_ ?_ <;> intro hc))
  generalize wn tn 0 3 = T at *
  have h7 : 0 ≤ T ∧ T ≤ 7 := by omega
  have hr0 : rowsOf s0 T = [] := by unfold rowsOf; rw [cellI_nat h7, hc0]
  repeat' (first | (refine rG 6 [1, 8, 9, 10] ?_; ((try (refine wK ?_; intro _)))) | (refine rG 7 [8, 9, 10, 25, 26, 27] ?_; ((try refine wO ?_) <;> (try ((refine o_callH (hacts _ _ inferInstance inferInstance) (by first | exact True.intro | (show _ < _; decide)) rfl rfl (fun y hy => ?_); obtain ⟨ra, rc, A⟩ := y; obtain ⟨hA, hrc, ho⟩ := hy))) <;> (try (refine wK ?_; intro _)))) | refine wC ?_ | (refine ex_split rfl ?_ ?_ <;> intro hc))
  have hA : A.length ≤ 40 := hA
  have hrc : A.length ≤ rc := hrc
  have hK := fun r hr => rd_orm r A hr
  generalize orm A = K at *
  refine Ex.ent ?_ (Ent.ow_none 67 5 _)
  refine ex_loopE (fun mm e H' => ∃ g, ∃ i : Nat, ∃ s : Cs, ∃ L : List Rw, ∃ la, ∃ lc_ : Nat, e = put (put (put (put (put (put g 8 (.int .i64 T)) 9 (.pointer (some ⟨b, 0, none⟩))) 10 (.slice la L.length lc_)) 25 (.slice ra A.length rc)) 26 (.int .i64 (A.length : Int))) 27 (.int .i64 (i : Int)) ∧
      H' = ow 41 15 ra A.length rc (A.flatMap ae) * (K * (CO b s * ow 67 5 la L.length lc_ (L.flatMap rwc))) ∧ L = rowsOf s T ∧ TelS s ∧ CsOk s (5 * i) ∧ s.qu ≤ 4000 ∧ i ≤ A.length ∧ mm = A.length - i) (m := A.length)
      ⟨_, 0, s0, [], none, 0, rfl, rfl, hr0.symm, fun t c h => (by rw [hc0] at h; cases h), ok0, hq0, by omega, by omega⟩ ?_ ?_
  · show Ent _ (ow 41 15 ra A.length rc (A.flatMap ae) * (K * (CO b s0 * ow 67 5 none 0 0 [])))
    exact ent_take
  · rintro mm e H' ⟨g, i, s, L, la, lc_, rfl, rfl, hL, htel, ok, hq, hi, rfl⟩
    have ei : IntKind.i64.wrap ((i : Int) + 1) = ((i + 1 : Nat) : Int) := by rw [IntKind.wrap_i64]; omega
    by_cases hlt : i < A.length
    · have hd : decide ((i : Int) < (A.length : Int)) = true := decide_eq_true (by omega)
      have h0 : 0 ≤ (i : Int) := by omega
      have h1 : (i : Int) < (A.length : Int) := by omega
      refine Ex.rd_some (a := ra) (l := A.flatMap ae) (by rw [flat_len ae_len]; omega) (fun ad ha2 => ?_)
      subst ha2
      have hv : sub (A.flatMap ae) ((i : Int).toNat * 15) 15 = some (ae A[i]) := by rw [Int.toNat_natCast]; exact sub_flat ae_len A i hlt
      have hKr := hK _ (List.getElem_mem hlt)
      have hop := Nat.le_trans (ho _ (List.getElem_mem hlt)).2.2 (show 6 ≤ 1000000 by decide)
      generalize A[i] = x at *
      obtain ⟨oa, ob, a⟩ := x
      have hdo1 := fun (aa : Option Addr) (X' H' R' : HP) (h1 : Take (CO b s) X' H') (h2 : RdC H' aa (acc oa ob a)) (h3 : Take K H' R') => coDo1 b s aa oa ob a 1 (t := h1) (hr := h2) (hro := rdc_Ko hKr) hop ok (by omega)
      have ok' := doS_ok ok (by omega) hq a
      have hq' : (doS a s).1.qu ≤ 4000 := by rw [(doS_same ok a).2.2.1]; exact hq
      have tel' := tel_do ok htel a
      have step := do_step ok (gw_mv s.sinks) a T.toNat
      rw [← cellI_nat h7, ← cellI_nat h7] at step
      generalize doS a s = D at *
      obtain ⟨s', er, xrows, rels⟩ := D
      have ok' : CsOk s' (5 * i + 5) := ok'
      have hq' : s'.qu ≤ 4000 := hq'
      have tel' : TelS s' := tel'
      simp only at step
      repeat' (first | (refine rG 8 [8, 9, 10, 25, 26, 27, 28] ?_; ((try (refine wK ?_; intro _)))) | (refine ex_regk (id := 9) (ts := [8, 9, 10, 12, 25, 26, 27]) ?_; ((try (refine o_index (by decide) rfl rfl (by first | decide | assumption | omega) (by first | decide | assumption | omega) ?_)) <;> (try (refine o_load_ra (vs := ae (oa, ob, a)) (by decide) rfl hv ?_)) <;> (try ((refine o_alloc_a (by decide) (fun b12 => ?_)))) <;> (try (first | refine o_store_a rfl rfl rfl rfl rfl ?_ | refine o_store_oa rfl rfl rfl (Nat.succ_pos _) rfl (by assumption) ?_)) <;> (try (refine ops_nilk ?_; intro _)) <;> (try ((first | refine keep_cons (v := .int _ _) rfl ?_ | refine keep_cons (v := _) rfl ?_) <;> (first | refine keep_cons (v := .pointer _) rfl ?_ | refine keep_cons (v := _) rfl ?_) <;> (first | refine keep_cons (v := .slice _ _ _) rfl ?_ | refine keep_cons (v := _) rfl ?_) <;> (first | refine keep_cons (v := .pointer _) rfl ?_ | refine keep_cons (v := _) rfl ?_) <;> (first | refine keep_cons (v := .slice _ _ _) rfl ?_ | refine keep_cons (v := _) rfl ?_) <;> (first | refine keep_cons (v := .int _ _) rfl ?_ | refine keep_cons (v := _) rfl ?_) <;> (first | refine keep_cons (v := .int _ _) rfl ?_ | refine keep_cons (v := _) rfl ?_))) <;> (try refine keep_nil ?_))) | refine wC ?_ | (refine ex_split rfl ?_ ?_ <;> intro hc))
      refine Ex.ent ?_ (ent_clL (b := b12) (l' := ae (oa, ob, a)) rfl)
      repeat' (first | (refine ex_regk (id := 10) (ts := [8, 9, 10, 25, 26, 27]) ?_; ((try (first | refine o_mv (v := .pointer _) (by decide) rfl ?_ | refine o_mv (by decide) rfl ?_)) <;> (try (refine o_load_a (vs := ae (oa, ob, a)) (by decide) rfl rfl ?_)) <;> (try ((refine o_buildSlice (by decide) rfl rfl rfl (fun _ => ?_)))) <;> (try ((refine o_callH (hdo1 _ _ _ _ inferInstance inferInstance inferInstance) (by first | exact True.intro | (show _ < _; decide)) rfl rfl (fun y hy => ?_)))) <;> (try (refine ops_nilk ?_; intro _)) <;> (try ((first | refine keep_cons (v := .int _ _) rfl ?_ | refine keep_cons (v := _) rfl ?_) <;> (first | refine keep_cons (v := .pointer _) rfl ?_ | refine keep_cons (v := _) rfl ?_) <;> (first | refine keep_cons (v := .slice _ _ _) rfl ?_ | refine keep_cons (v := _) rfl ?_) <;> (first | refine keep_cons (v := .slice _ _ _) rfl ?_ | refine keep_cons (v := _) rfl ?_) <;> (first | refine keep_cons (v := .int _ _) rfl ?_ | refine keep_cons (v := _) rfl ?_) <;> (first | refine keep_cons (v := .int _ _) rfl ?_ | refine keep_cons (v := _) rfl ?_))) <;> (try refine keep_nil ?_))) | refine wC ?_ | (refine ex_split rfl ?_ ?_ <;> intro hc))
      cases hcI : cellI s' T with
      | none =>
        have hrow : rowsOf s T = [] := by
          unfold rowsOf
          rcases step with ⟨h1, _⟩ | ⟨c, d, _, h2, _⟩ | ⟨h1, _⟩
          · rw [h1]
          · rw [hcI] at h2; cases h2
          · rw [h1]
        have hrow' : rowsOf s' T = [] := by unfold rowsOf; rw [hcI]
        have hcn := fun (X' H' : HP) (h : Take (CO b s') X' H') => coCellN b s' T (t := h) hcI
        repeat' (first | (refine rG 11 [8, 9, 10, 13, 25, 26, 27] ?_; ((try refine wO ?_) <;> (try ((refine o_callH (hcn _ _ inferInstance) (by first | exact True.intro | (show _ < _; decide)) rfl rfl (fun _ _ => ?_)))) <;> (try (refine wK ?_; intro _)))) | (refine rG 12 [8, 9, 10, 13, 25, 26, 27, 39] ?_; ((try (refine wK ?_; intro _)))) | (refine rG 20 [8, 9, 10, 25, 26, 27] ?_; ((try (refine wK ?_; intro _)))) | refine wC ?_ | (refine ex_split rfl ?_ ?_ <;> intro hc))
        rw [ei]
        refine ⟨A.length - (i + 1), by omega, _, ?_, _, i + 1, s', L, la, lc_, rfl, rfl, by rw [hL, hrow, hrow'], tel', ok', hq', by omega, rfl⟩
        exact ent_take
      | some c =>
        have hcc : cell s' T.toNat = some c := by rw [← cellI_nat h7]; exact hcI
        have hrow' : rowsOf s' T = c.rows := by unfold rowsOf; rw [hcI]
        have hgr : ∃ r, c.rows = L ++ r := by
          rcases step with ⟨_, h2⟩ | ⟨c0, d, h1, h2, h3⟩ | ⟨h1, _⟩
          · rw [hcI] at h2; cases h2
          · rw [hcI] at h2
            obtain rfl := Option.some.inj h2
            obtain ⟨r, hr⟩ := h3.2
            exact ⟨r, by rw [hr, hL]; unfold rowsOf; rw [h1]⟩
          · exact ⟨c.rows, by rw [hL]; unfold rowsOf; rw [h1]; rfl⟩
        have htc : Tel c := tel' _ _ hcc
        have hpi : pir c.run.pp = true := (mayP_pir (ok'.cell _ _ hcc).2.1).1
        have k1 := (ok'.cell _ _ hcc).1.ins
        have hrl := ok'.rle T
        have hrows := fun (X' H' : HP) (h : Take (CO b s') X' H') => topRows b s' T (t := h) ok' (by omega) (by omega)
        have hcs := fun (X' H' : HP) (h : Take (CO b s') X' H') => coCellS b s' T (t := h) ok' (by omega) hcI
        rw [hrow'] at hrows hrl
        obtain ⟨ex1, hgr⟩ := hgr
        obtain ⟨ex2, e2⟩ : ∃ ex2, (rnTake (newRu c.run.pp) (c.taken ++ c.q)).2 = c.rows ++ ex2 := ⟨_, by rw [rnTake_app, htc]⟩
        have e1 : (rnTake (newRu c.run.pp) c.taken).2 = c.rows := by rw [htc]
        have hw1 := fun (H' : HP) (oa : Option Addr) (ocp : Nat) (ia : Option Addr) (ic : Nat) (h1 : RdC H' oa (c.run.pp.1.flatMap oc)) (h2 : RdC H' ia ((c.taken ++ c.q).flatMap inc)) => wholeRows H' c.run.pp oa ocp ia (c.taken ++ c.q) ic (hr := h1) (hi := h2) hpi (by rw [List.length_append]; omega)
        have hw2 := fun (H' : HP) (oa : Option Addr) (ocp : Nat) (ia : Option Addr) (ic : Nat) (h1 : RdC H' oa (c.run.pp.1.flatMap oc)) (h2 : RdC H' ia (c.taken.flatMap inc)) => wholeRows H' c.run.pp oa ocp ia c.taken ic (hr := h1) (hi := h2) hpi (by omega)
        rw [e2] at hw1
        rw [e1] at hw2
        obtain ⟨le, sp, re, q, ⟨mk, lt, sn, ⟨ops, sz, slv, ag, sk, fd⟩, P⟩, id, rows, taken⟩ := c
        simp only at hrow' hrl hgr k1
        dsimp only at hrows hw1 hw2 hpi
        repeat' (first | (refine rG 11 [8, 9, 10, 13, 25, 26, 27] ?_; ((try refine wO ?_) <;> (try ((refine o_callH (hcs _ _ inferInstance) (by first | exact True.intro | (show _ < _; decide)) rfl rfl (fun yb _ => ?_)))) <;> (try (refine wK ?_; intro _)))) | (refine rG 12 [8, 9, 10, 13, 25, 26, 27, 39] ?_; ((try (refine wK ?_; intro _)))) | refine wC ?_ | (refine ex_split rfl ?_ ?_ <;> intro hc))
        refine ex_ce fun rb pb mb oa' ocp qa qc ra' rc' ta tc hqc hrc' htc' => ?_
        simp only [RR_eq, sep_assoc]
        repeat' (first | (refine rG 13 [8, 9, 10, 13, 25, 26, 27, 44] ?_; ((try (refine wK ?_; intro _)))) | (refine rG 15 [8, 9, 10, 13, 14, 25, 26, 27] ?_; ((try refine wO ?_) <;> (try ((refine o_callH (hrows _ _ inferInstance) (by first | exact True.intro | (show _ < _; decide)) rfl rfl (fun y15 h15 => ?_)))) <;> (try (refine wK ?_; intro _)))) | refine wC ?_ | (refine ex_split rfl ?_ ?_ <;> intro hc))
        repeat' (first | (refine rA 16 [8, 9, 10, 13, 14, 15, 25, 26, 27] 11 ?_; (refine os_all ?_); ((refine lQ 1 ?_; ((refine lQ 4 ?_; ((refine lQ 5 ?_; ((refine lQ 6 ?_; ((refine lC (v := ?_) 7 ?_ ?_; rotate_left; (focus ((refine o_load_a (vs := [.slice qa q.length qc]) (by decide) rfl rfl ?_) <;> exact lL)); ((refine os_two 0 2 (by kernel_rfl) rfl rfl ?_ ?_ <;> first | (refine os_sel (d := some 48) rfl ?_ <;> ((refine o_buildSlice (by decide) rfl rfl rfl (fun _ => ?_))) <;> (refine os_nil ?_) <;> ((refine oN 2 ?_ <;> ((refine o_callH (ceTaken yb _ _ _ _ _ _ _ ta taken tc _ (by omega)) (by first | exact True.intro | (show _ < _; decide)) rfl rfl (fun y50 h50 => ?_))) <;> (refine os_nil ?_) <;> ((refine oN 3 ?_ <;> ((refine o_appendT (cells := inc) (xs := []) (ys := taken) inc_len inc_one (by decide) rfl rfl rfl rfl rfl (by simp only [List.length_nil]; omega) (by simp only [maxLen, List.length_nil]; omega) (fun a51 c51 h51 => ?_); rw [List.nil_append] at h51 ⊢)) <;> (refine os_nil ?_) <;> ((refine oN 8 ?_ <;> ((refine o_callH (queAll _ qa q qc (by omega)) (by first | exact True.intro | (show _ < _; decide)) rfl rfl (fun y56 h56 => ?_))) <;> (refine os_nil ?_) <;> ((refine oN 9 ?_ <;> (refine o_appendT (cells := inc) (xs := taken) (ys := q) inc_len inc_one (by decide) rfl rfl rfl rfl rfl (by omega) (by simp only [maxLen]; omega) (fun a57 c57 h57 => ?_)) <;> (refine os_nil ?_) <;> ((refine lQ 10 ?_; ((refine dK ?_; intro _))))))))))))) | (refine os_sel (d := some 50) rfl ?_ <;> ((refine o_callH (ceTaken yb _ _ _ _ _ _ _ ta taken tc _ (by omega)) (by first | exact True.intro | (show _ < _; decide)) rfl rfl (fun y50 h50 => ?_))) <;> (refine os_nil ?_) <;> ((refine oN 0 ?_ <;> ((refine o_buildSlice (by decide) rfl rfl rfl (fun _ => ?_))) <;> (refine os_nil ?_) <;> ((refine oN 3 ?_ <;> ((refine o_appendT (cells := inc) (xs := []) (ys := taken) inc_len inc_one (by decide) rfl rfl rfl rfl rfl (by simp only [List.length_nil]; omega) (by simp only [maxLen, List.length_nil]; omega) (fun a51 c51 h51 => ?_); rw [List.nil_append] at h51 ⊢)) <;> (refine os_nil ?_) <;> ((refine oN 8 ?_ <;> ((refine o_callH (queAll _ qa q qc (by omega)) (by first | exact True.intro | (show _ < _; decide)) rfl rfl (fun y56 h56 => ?_))) <;> (refine os_nil ?_) <;> ((refine oN 9 ?_ <;> (refine o_appendT (cells := inc) (xs := taken) (ys := q) inc_len inc_one (by decide) rfl rfl rfl rfl rfl (by omega) (by simp only [maxLen]; omega) (fun a57 c57 h57 => ?_)) <;> (refine os_nil ?_) <;> ((refine lQ 10 ?_; ((refine dK ?_; intro _)))))))))))))))))))))))))) | refine wC ?_ | (refine ex_split rfl ?_ ?_ <;> intro hc))
        all_goals
          subst hgr
          have hp1 := fun (H' : HP) (h1 : RdC H' la (L.flatMap rwc)) (h2 : RdC H' y15.1 ((L ++ ex1).flatMap rwc)) => wholePrefix H' la y15.1 L ex1 lc_ y15.2 (ha := h1) (hb := h2) h15 (by rw [List.length_append] at hrl; omega)
          repeat' (first | (refine rA 17 [8, 9, 14, 25, 26, 27, 90] 33 ?_; (refine os_all ?_); ((refine lQ 0 ?_; ((refine lQ 1 ?_; ((refine lC (v := ?_) 2 ?_ ?_; rotate_left; (focus (((refine o_callH (hp1 _ inferInstance inferInstance) (by first | exact True.intro | (show _ < _; decide)) rfl rfl (fun _ _ => ?_))) <;> exact lL)); ((refine lQ 3 ?_; ((refine lQ 4 ?_; ((refine lQ 5 ?_; ((refine lQ 6 ?_; ((refine lQ 7 ?_; ((refine lQ 8 ?_; ((refine lQ 9 ?_; ((refine lQ 10 ?_; ((refine lQ 11 ?_; ((refine lQ 12 ?_; ((refine lQ 13 ?_; ((refine oN 14 ?_ <;> ((refine wO ?_) <;> (try ((refine o_callH (hw1 _ oa' ocp a57 c57 inferInstance inferInstance) (by first | exact True.intro | (show _ < _; decide)) rfl rfl (fun y72 h72 => ?_))))) <;> (refine os_nil ?_) <;> ((refine oN 15 ?_ <;> ((refine wO ?_) <;> (try ((refine o_callH (wholePrefix _ y15.1 y72.1 (L ++ ex1) ex2 y15.2 y72.2 h72 (by omega)) (by first | exact True.intro | (show _ < _; decide)) rfl rfl (fun _ _ => ?_))))) <;> (refine os_nil ?_) <;> ((refine lQ 16 ?_; ((refine lQ 17 ?_; ((refine lQ 18 ?_; ((refine lQ 19 ?_; ((refine lQ 20 ?_; ((refine lQ 21 ?_; ((refine lQ 22 ?_; ((refine lQ 23 ?_; ((refine lQ 24 ?_; ((refine lQ 25 ?_; ((refine lQ 26 ?_; ((refine lQ 27 ?_; ((refine oN 28 ?_ <;> ((refine wO ?_) <;> (try ((refine o_callH (ceTaken yb _ _ _ _ _ _ _ ta taken tc _ (by omega)) (by first | exact True.intro | (show _ < _; decide)) rfl rfl (fun y86 h86 => ?_))))) <;> (refine os_nil ?_) <;> ((refine oN 29 ?_ <;> ((refine wO ?_) <;> (try ((refine o_callH (hw2 _ oa' ocp y86.1 y86.2 inferInstance inferInstance) (by first | exact True.intro | (show _ < _; decide)) rfl rfl (fun y87 h87 => ?_))))) <;> (refine os_nil ?_) <;> ((refine oN 30 ?_ <;> ((refine wO ?_) <;> (try ((refine o_callH (sameRT _ y15.1 y87.1 (L ++ ex1) y15.2 y87.2 (by omega)) (by first | exact True.intro | (show _ < _; decide)) rfl rfl (fun _ _ => ?_))))) <;> (refine os_nil ?_) <;> ((refine lQ 31 ?_; ((refine lQ 32 ?_; ((refine dK ?_; intro _))))))))))))))))))))))))))))))))))))))))))))))))))))))))))))))))))))) | refine wC ?_ | (refine ex_split rfl ?_ ?_ <;> intro hc))
        all_goals
          repeat' (first | (refine rG 19 [8, 9, 10, 25, 26, 27] ?_; ((try (refine wK ?_; intro _)))) | (refine rG 20 [8, 9, 10, 25, 26, 27] ?_; ((try (refine wK ?_; intro _)))) | refine wC ?_ | (refine ex_split rfl ?_ ?_ <;> intro hc))
          rw [ei]
          refine ⟨A.length - (i + 1), by omega, _, ?_, _, i + 1, s', L ++ ex1, y15.1, y15.2, rfl, rfl, hrow'.symm, tel', ok', hq', by omega, rfl⟩
          exact ent_take
    · have hd : decide ((i : Int) < (A.length : Int)) = false := decide_eq_false (by omega)
      repeat' (first | (refine rG 8 [8, 9, 10, 25, 26, 27, 28] ?_; ((try (refine wK ?_; intro _)))) | (refine rG 21 [6] ?_; ((try ((refine o_call awakeK (by first | exact True.intro | (show _ < _; decide)) rfl rfl (fun _ _ => ?_)))) <;> (try (refine wK ?_; intro _)))) | refine wC ?_ | (refine ex_split rfl ?_ ?_ <;> intro hc))
      exact fin (.inr rfl) () (resl1 rfl (rv_tmp rfl)) trivial (Ent.toOne _)
end Go.Proofs.YtcelailgedndnaaGreatS
