/- Contracts of the functions that the statement reaches: the walk of the program by the small logic, part 1: P1, P2, W1, W2. No condition beyond what each theorem states. -/
import Derived.Test.YtcelailgedndnaaGreatZ8
namespace Go.Proofs.YtcelailgedndnaaGreatS
open Go.RowKit
set_option linter.unusedVariables false
set_option linter.unusedSimpArgs false
/-- What an act may do to a tenant's cell that is there: R holds of each step, and of steps in a row. -/
structure Mv (ss : List Sk) (R : Nat → Cd → Cd → Prop) : Prop where
  refl : ∀ t c, R t c c
  trans : ∀ t a b c, R t a b → R t b c → R t a c
  off : ∀ (t : Nat) room i c, c.id = (t : Int) → R t c (offer room i c).1
  srv : ∀ t n c, R t c (serve n c).1
  fed : ∀ t i k p tick c, ss[i]? = some k → few p k = false → R t c (feed1 k (rel i k p tick) t c)
def RS (R : Nat → Cd → Cd → Prop) (s s' : Cs) : Prop := s'.sinks = s.sinks ∧ ∀ t, (cell s t = none ∧ cell s' t = none) ∨ ∃ c d, cell s t = some c ∧ cell s' t = some d ∧ R t c d
section
variable {R : Nat → Cd → Cd → Prop} {ss : List Sk}
theorem RS.same (m : Mv ss R) {s s' : Cs} (h1 : s'.sinks = s.sinks) (h2 : ∀ t, cell s' t = cell s t) : RS R s s' := ⟨h1, fun t => by
  rw [h2]
  cases h : cell s t with
  | none => exact .inl ⟨rfl, rfl⟩
  | some c => exact .inr ⟨c, c, rfl, rfl, m.refl t c⟩⟩
theorem RS.trans (m : Mv ss R) {a b c : Cs} (h1 : RS R a b) (h2 : RS R b c) : RS R a c := ⟨h2.1.trans h1.1, fun t => by
  rcases h1.2 t with ⟨x1, x2⟩ | ⟨c1, c2, x1, x2, x3⟩
  · rcases h2.2 t with ⟨y1, y2⟩ | ⟨d1, d2, y1, y2, y3⟩
    · exact .inl ⟨x1, y2⟩
    · rw [x2] at y1; cases y1
  · rcases h2.2 t with ⟨y1, y2⟩ | ⟨d1, d2, y1, y2, y3⟩
    · rw [x2] at y1; cases y1
    · rw [x2] at y1
      obtain rfl := Option.some.inj y1
      exact .inr ⟨c1, d2, x1, y2, m.trans t _ _ _ x3 y3⟩⟩
theorem serve1_rs (m : Mv ss R) (t : Nat) (k : Int) (s : Cs) : RS R s (serve1 t k s) := by
  cases hc : cell s t with
  | none => rw [serve1_none hc]; exact RS.same m rfl fun _ => rfl
  | some c =>
    rw [serve1_some hc]
    refine ⟨rfl, fun u => ?_⟩
    rw [cell_set (cell_lt hc)]
    by_cases hu : u = t
    · subst hu
      rw [if_pos rfl]
      exact .inr ⟨c, _, hc, rfl, m.srv _ _ _⟩
    · rw [if_neg hu]
      cases h : cell s u with
      | none => exact .inl ⟨rfl, rfl⟩
      | some d => exact .inr ⟨d, d, rfl, rfl, m.refl u d⟩
theorem fold_rs (m : Mv ss R) {α : Type} (f : Cs → α → Cs) (hf : ∀ s x, s.sinks = ss → RS R s (f s x)) : ∀ (l : List α) (s : Cs), s.sinks = ss → RS R s (l.foldl f s)
  | [], s, _ => RS.same m rfl fun _ => rfl
  | x :: l, s, h => by
    have h1 := hf s x h
    exact h1.trans m (fold_rs m f hf l (f s x) (h1.1.trans h))
theorem tick1_rs (m : Mv ss R) (i : Nat) (s : Cs) (hs : s.sinks = ss) : RS R s (tick1 i s) := by
  unfold tick1
  cases hk : s.sinks[i]? with
  | none => exact RS.same m rfl fun _ => rfl
  | some k =>
    cases hp : s.pots[i]? with
    | none => exact RS.same m rfl fun _ => rfl
    | some p =>
      simp only
      split
      · cases hw : few p.2 k with
        | true => rw [if_pos rfl]; exact RS.same m rfl fun _ => rfl
        | false =>
          rw [if_neg (by simp)]
          refine ⟨rfl, fun t => ?_⟩
          rw [cell_feed]
          show (cell s t = none ∧ (cell s t).map _ = none) ∨ _
          cases h : cell s t with
          | none => exact .inl ⟨rfl, rfl⟩
          | some c => exact .inr ⟨c, _, rfl, (congrArg (Option.map _) h), m.fed t i k p.2 s.ticks c (hs ▸ hk) hw⟩
      · exact RS.same m rfl fun _ => rfl
theorem tickS_rs (m : Mv ss R) (s : Cs) (hs : s.sinks = ss) : RS R s (tickS s) := by
  have h1 : RS R s (serveAll s) := fold_rs m _ (fun x t _ => serve1_rs m t _ x) _ s hs
  have h2 : RS R (serveAll s) { serveAll s with ticks := IntKind.i64.wrap (s.ticks + 1) } := RS.same m rfl fun _ => rfl
  have h3 := h1.trans m h2
  exact h3.trans m (fold_rs m _ (fun x i hx => tick1_rs m i x hx) _ _ (h3.1.trans hs))
/-- What an act does to each tenant's cell. -/
theorem do_step {s : Cs} {n : Nat} (ok : CsOk s n) (m : Mv s.sinks R) (a : Ac) (t : Nat) : (cell s t = none ∧ cell (doS a s).1 t = none) ∨ (∃ c d, cell s t = some c ∧ cell (doS a s).1 t = some d ∧ R t c d) ∨
    (cell s t = none ∧ ∃ p, mayP (t : Int) p s.sinks = true ∧ cell (doS a s).1 t = some (newCd (t : Int) s.qu p)) := by
  have same : ∀ s', (∀ u, cell s' u = cell s u) → (cell s t = none ∧ cell s' t = none) ∨ (∃ c d, cell s t = some c ∧ cell s' t = some d ∧ R t c d) ∨ (cell s t = none ∧ ∃ p, mayP (t : Int) p s.sinks = true ∧ cell s' t = some (newCd (t : Int) s.qu p)) := fun s' h2 => by
    rw [h2]
    cases h : cell s t with
    | none => exact .inl ⟨rfl, rfl⟩
    | some c => exact .inr (.inl ⟨c, c, rfl, rfl, m.refl t c⟩)
  obtain ⟨kd, tn, fr, nn, p, i⟩ := a
  unfold doS
  split
  · show (cell s t = none ∧ cell (register tn p s).1 t = none) ∨ (∃ c d, cell s t = some c ∧ cell (register tn p s).1 t = some d ∧ R t c d) ∨ (cell s t = none ∧ ∃ p', mayP (t : Int) p' s.sinks = true ∧ cell (register tn p s).1 t = some (newCd (t : Int) s.qu p'))
    unfold register
    split
    · exact same _ fun _ => rfl
    · rename_i h7
      have h7 : 0 ≤ tn ∧ tn ≤ 7 := Decidable.not_not.1 h7
      split
      · exact same _ fun _ => rfl
      · rename_i hsome
        split
        · exact same _ fun _ => rfl
        · rename_i hmay
          have hmay : mayP tn p s.sinks = true := by simpa using hmay
          have hcs := cell_set (s := s) (t := tn.toNat) (x := some (newCd tn s.qu p)) (P := s.pots) (by rw [ok.c8]; omega) t
          simp only
          rw [hcs]
          by_cases hu : t = tn.toNat
          · rw [if_pos hu]
            have htn : ((t : Nat) : Int) = tn := by omega
            refine .inr (.inr ⟨?_, p, by rw [htn]; exact hmay, by rw [htn]⟩)
            rw [hu]
            cases hcc : cell s tn.toNat with
            | none => rfl
            | some c => rw [hcc] at hsome; simp at hsome
          · rw [if_neg hu]
            exact same s fun _ => rfl
  · split
    · rcases (tickS_rs m s rfl).2 t with h | h
      · exact .inl h
      · exact .inr (.inl h)
    · split
      · exact same _ fun _ => rfl
      · split
        · exact same _ fun _ => rfl
        · cases hc : cellI s tn with
          | none => exact same s fun _ => rfl
          | some c =>
            simp only [hc]
            split
            · have h7 : 0 ≤ tn ∧ tn ≤ 7 := by
                unfold cellI at hc
                split at hc
                · assumption
                · cases hc
              have hc' : cell s tn.toNat = some c := by
                unfold cellI at hc
                rwa [if_pos h7] at hc
              have hcs := cell_set (s := s) (t := tn.toNat) (x := some (offer s.ro i c).1) (P := s.pots) (by rw [ok.c8]; omega) t
              simp only
              rw [hcs]
              by_cases hu : t = tn.toNat
              · rw [if_pos hu, hu, hc']
                exact .inr (.inl ⟨c, _, rfl, rfl, m.off _ _ _ _ (ok.cell _ _ hc').2.2⟩)
              · rw [if_neg hu]
                exact same s fun _ => rfl
            · exact same s fun _ => rfl
end
/-! ### The rows are what the pipe makes of what was taken -/
theorem rnTake_app (r : Ru) (l m : List In) : rnTake r (l ++ m) = ((rnTake (rnTake r l).1 m).1, (rnTake r l).2 ++ (rnTake (rnTake r l).1 m).2) := by
  refine snoc_ind (P := fun m => rnTake r (l ++ m) = ((rnTake (rnTake r l).1 m).1, (rnTake r l).2 ++ (rnTake (rnTake r l).1 m).2)) ?_ (fun m i ih => ?_) m
  · rw [List.append_nil]; show _ = ((rnTake r l).1, (rnTake r l).2 ++ []); rw [List.append_nil]
  · rw [← List.append_assoc, rnTake_snoc, ih, rnTake_snoc, List.append_assoc]
def Tel (c : Cd) : Prop := rnTake (newRu c.run.pp) c.taken = (c.run, c.rows)
theorem tel_new (id most : Int) (p : Pp) : Tel (newCd id most p) := rfl
theorem tel_serve {c : Cd} (h : Tel c) (n : Int) : Tel (serve n c).1 := by
  unfold Tel at *
  rw [serve_pp]
  show rnTake (newRu c.run.pp) (c.taken ++ c.q.take (pk n c.q.length)) = _
  rw [rnTake_app, h]
  rfl
theorem feed1_q (k : Sk) (r : Bd.Rl) (t : Nat) (c : Cd) : (feed1 k r t c).run = c.run ∧ (feed1 k r t c).taken = c.taken ∧ (feed1 k r t c).rows = c.rows := by
  unfold feed1 feedC
  split
  · split <;> exact ⟨rfl, rfl, rfl⟩
  · exact ⟨rfl, rfl, rfl⟩
theorem offer_q (room : Int) (i : In) (c : Cd) : (offer room i c).1.run = c.run ∧ (offer room i c).1.taken = c.taken ∧ (offer room i c).1.rows = c.rows := by
  unfold offer refuse
  split
  · exact ⟨rfl, rfl, rfl⟩
  · split
    · exact ⟨rfl, rfl, rfl⟩
    · split <;> exact ⟨rfl, rfl, rfl⟩
def Gw (t : Nat) (c d : Cd) : Prop := (Tel c → Tel d) ∧ ∃ r, d.rows = c.rows ++ r
theorem gw_mv (ss : List Sk) : Mv ss Gw where
  refl := fun t c => ⟨id, [], (List.append_nil _).symm⟩
  trans := fun t a b c ⟨h1, r1, e1⟩ ⟨h2, r2, e2⟩ => ⟨fun h => h2 (h1 h), r1 ++ r2, by rw [e2, e1, List.append_assoc]⟩
  off := fun t room i c _ => by
    obtain ⟨e1, e2, e3⟩ := offer_q room i c
    exact ⟨fun h => by unfold Tel at *; rw [e1, e2, e3]; exact h, [], by rw [e3, List.append_nil]⟩
  srv := fun t n c => ⟨fun h => tel_serve h n, _, rfl⟩
  fed := fun t i k p tick c _ _ => by
    obtain ⟨e1, e2, e3⟩ := feed1_q k (rel i k p tick) t c
    exact ⟨fun h => by unfold Tel at *; rw [e1, e2, e3]; exact h, [], by rw [e3, List.append_nil]⟩
/-- Each tenant's rows are told by what it took. -/
def TelS (s : Cs) : Prop := ∀ t c, cell s t = some c → Tel c
theorem tel_do {s : Cs} {n : Nat} (ok : CsOk s n) (h : TelS s) (a : Ac) : TelS (doS a s).1 := fun t d hd => by
  rcases do_step ok (gw_mv s.sinks) a t with ⟨_, h2⟩ | ⟨c, d', h1, h2, h3⟩ | ⟨_, p, _, h2⟩
  · rw [h2] at hd; cases hd
  · rw [h2] at hd; obtain rfl := Option.some.inj hd; exact h3.1 (h t c h1)
  · rw [h2] at hd; obtain rfl := Option.some.inj hd; exact tel_new _ _ _
end Go.Proofs.YtcelailgedndnaaGreatS
namespace Go.Proofs.YtcelailgedndnaaGreatS
open Go.RowKit
set_option linter.unusedVariables false
set_option linter.unusedSimpArgs false
theorem CdOk.rle {c : Cd} {n : Nat} (h : CdOk c n) : c.rows.length ≤ 8 * n := by
  have := h.pan
  have := h.ins
  omega
theorem CsOk.rle {s : Cs} {n : Nat} (h : CsOk s n) (t : Int) : (rowsOf s t).length ≤ 8 * n := by
  unfold rowsOf
  cases hc : cellI s t with
  | none => exact Nat.zero_le _
  | some c =>
    unfold cellI at hc
    split at hc
    · exact (h.cell _ _ hc).1.rle
    · cases hc
theorem cell_new (bu ro qu : Int) (l : List Sk) (t : Nat) : cell (newCs bu ro qu l) t = none := by
  unfold cell newCs
  simp only [List.getElem?_replicate]
  split <;> rfl
theorem cellI_nat {s : Cs} {t : Int} (h : 0 ≤ t ∧ t ≤ 7) : cellI s t = cell s t.toNat := by unfold cellI; rw [if_pos h]
theorem rdc_Ko {X H K : HP} {oa : Option Addr} {c : List Value} (hK : RdP K oa c) [t : Take K X H] : RdC X oa c := by
  rw [t.eq]
  exact ⟨hK.left H⟩
set_option linter.unusedVariables false
set_option linter.unusedSimpArgs false
attribute [local irreducible] Ops Ex Spec T V QO OA Rn OS
set_option maxHeartbeats 8000000 in
theorem wholeRows (H : HP) (p : Pp) (a : Option Addr) (cap : Nat) (ia : Option Addr) (l : List In) (ic : Nat) [hr : RdC H a (p.1.flatMap oc)] [hi : RdC H ia (l.flatMap inc)] (hp : pir p = true) (hn : 8 * l.length ≤ 100000) :
    Spec Tryz.prog 26 [.agg (ppc a cap p).toArray, .slice ia l.length ic] H (X := Option Addr × Nat) (fun y => .slice y.1 (rnTake (newRu p) l).2.length y.2) (fun y => (rnTake (newRu p) l).2.length ≤ y.2)
      (fun y => ow 67 5 y.1 (rnTake (newRu p) l).2.length y.2 ((rnTake (newRu p) l).2.flatMap rwc) * H) := by
  have hl6 := pir_len hp
  have hnew := fun (H' : HP) (h : RdC H' a (p.1.flatMap oc)) => ruNew H' p a cap (hr := h) hp (by omega)
  have hok : RuOk (newRu p) 0 := ⟨by show p.1.length ≤ 100; omega, by show (([] : Pm).map (·.1)).Nodup; simp, Nat.le_refl _⟩
  have htk := fun (rb pb mb : Nat) (oa : Option Addr) (ocp : Nat) (X' H' : HP) (h : Take (RR rb pb mb oa ocp (newRu p)) X' H') (h2 : RdC H' ia (l.flatMap inc)) => ruTake rb pb mb oa ocp (newRu p) ia l ic (t := h) (hr := h2) hok (by omega)
  refine spec_of Tryz.func26 rfl Tryz.ntmps26 rfl ?_
  repeat' (first | (refine rG 0 [1, 2] ?_; ((try ((refine o_box (by decide) (v := .agg (ppc a cap p).toArray) rfl rfl (fun b2 => ?_)))) <;> (try (refine wK ?_; intro _)))) | (refine ex_regk (id := 1) (ts := [1, 5]) ?_; ((try (refine o_load_a (vs := ppc a cap p) (by decide) rfl rfl ?_)) <;> (try ((refine o_callH (hnew _ inferInstance) (by first | exact True.intro | (show _ < _; decide)) rfl rfl (fun y _ => ?_); obtain ⟨rb, pb, mb, oa, ocp⟩ := y))) <;> (try (first | refine o_as (v := .pointer _) (by decide) rfl ?_ | refine o_as (by decide) rfl ?_)) <;> (try (refine ops_nilk ?_; intro _)) <;> (try ((first | refine keep_cons (v := .slice _ _ _) rfl ?_ | refine keep_cons (v := _) rfl ?_) <;> (first | refine keep_cons (v := .pointer _) rfl ?_ | refine keep_cons (v := _) rfl ?_))) <;> (try refine keep_nil ?_))) | (refine rG 2 [1, 5, 9] ?_; ((try (refine wK ?_; intro _)))) | refine wC ?_ | (refine ex_split rfl ?_ ?_ <;> intro hc))
  repeat' (first | (refine rG 4 [4] ?_; ((try refine wO ?_) <;> (try ((refine o_callH (htk rb pb mb oa ocp _ _ inferInstance inferInstance) (by first | exact True.intro | (show _ < _; decide)) rfl rfl (fun y hy => ?_); obtain ⟨ya, yc⟩ := y))) <;> (try (refine wK ?_; intro _)))) | refine wC ?_ | (refine ex_split rfl ?_ ?_ <;> intro hc))
  refine fin (.inr rfl) (ya, yc) (resl1 rfl (rv_tmp rfl)) hy ?_
  exact ent_take
theorem wholePrefix (H : HP) (a b : Option Addr) (l r : List Rw) (ca cb : Nat) [ha : RdC H a (l.flatMap rwc)] [hb : RdC H b ((l ++ r).flatMap rwc)] (hc : (l ++ r).length ≤ cb) (hl : l.length ≤ 1000000) :
    Spec Tryz.prog 34 [.slice a l.length ca, .slice b (l ++ r).length cb] H (X := Unit) (fun _ => .bool true) (fun _ => True) (fun _ => H) := by
  have hd : decide ((l.length : Int) ≤ ((l ++ r).length : Int)) = true := decide_eq_true (by rw [List.length_append]; omega)
  have hlr : l.length ≤ (l ++ r).length := by rw [List.length_append]; omega
  have htk : (l ++ r).take l.length = l := by simp
  have hq := fun (b' : Option Addr) (cb' : Nat) (h : RdC H b' (((l ++ r).take l.length).flatMap rwc)) => sameQ H a b' l ((l ++ r).take l.length) ca cb' (hb := h) rfl rfl hl
  rw [htk, decide_eq_true rfl] at hq
  refine spec_of Tryz.func34 rfl Tryz.ntmps34 rfl ?_
  repeat' (first | (refine rG 0 [0, 1] ?_; ((try (refine wK ?_; intro _)))) | (refine rG 1 [4] ?_; ((try refine wO ?_) <;> (repeat' (refine g_split rfl (by decide) rfl (by decide) ?_ ?_ <;> intro hc <;> (try refine wO ?_))) <;> (try ((refine o_takeT (cells := rwc) (xs := l ++ r) (t := l.length) rwc_len (by decide) rfl rfl rfl hlr hc (fun b' hb' => ?_); rw [htk] at hb' ⊢))) <;> (try refine wO ?_) <;> (repeat' (refine g_split rfl (by decide) rfl (by decide) ?_ ?_ <;> intro hc <;> (try refine wO ?_))) <;> (try (refine o_callH (hq _ _ (hb' _)) (by first | exact True.intro | (show _ < _; decide)) rfl rfl (fun _ _ => ?_))) <;> (try (refine wK ?_; intro _)))) | refine wC ?_ | (refine ex_split rfl ?_ ?_ <;> intro hc))
  exact fin (.inr rfl) () (resl1 rfl (rv_tmp rfl)) trivial (Ent.refl _)
end Go.Proofs.YtcelailgedndnaaGreatS
namespace Go.Proofs.YtcelailgedndnaaGreatS
open Go.RowKit
set_option linter.unusedVariables false
set_option linter.unusedSimpArgs false
/-! Whom a row tells of. -/
def ofP (t : Int) (p : Pp) (ss : List Sk) : BitVec 64 := R.ofF t p.1 p.2.1 p.2.2.1 p.2.2.2.1 p.2.2.2.2.1 p.2.2.2.2.2 ss
def good (m l : BitVec 64) : Prop := bl l m = true ∧ l ≠ 0
theorem bl_or {a b m : BitVec 64} (h1 : bl a m = true) (h2 : bl b m = true) : bl (a ||| b) m = true := by
  rw [bl_iff] at *
  intro i hi h
  rw [gj] at h
  cases ha : a.getLsbD i with
  | true => exact h1 i hi ha
  | false => exact h2 i hi (by rw [ha] at h; simpa using h)
theorem bl_left (a b : BitVec 64) : bl a (a ||| b) = true := by
  rw [bl_iff]
  intro i hi h
  rw [gj, h]; rfl
theorem bl_right (a b : BitVec 64) : bl b (a ||| b) = true := by
  rw [bl_iff]
  intro i hi h
  rw [gj, h]; simp
theorem bl_refl (a : BitVec 64) : bl a a = true := by
  rw [bl_iff]
  exact fun _ _ h => h
theorem bl_zero (m : BitVec 64) : bl 0 m = true := by
  rw [bl_iff]
  intro i hi h
  rw [gz] at h; cases h
theorem or_ne {a b : BitVec 64} (h : b ≠ 0) : a ||| b ≠ 0 := fun e => h (by
  rw [bext] at e ⊢
  intro i hi
  have := e i hi
  rw [gj, gz] at this
  rw [gz]
  cases hb : b.getLsbD i with
  | false => rfl
  | true => rw [hb] at this; simp at this)
theorem good_or {m a b : BitVec 64} (h1 : bl a m = true) (h2 : good m b) : good m (a ||| b) := ⟨bl_or h1 h2.1, or_ne h2.2⟩
/-- The label of each pane. -/
def PanOk (m : BitVec 64) (P : Pm) : Prop := ∀ x ∈ P, good m x.2.2.2
theorem mem_pset : ∀ (P : Pm) (p : Pl) (v : Pt) (x), x ∈ pset P p v → x = (p, v) ∨ x ∈ P
  | [], p, v, x, h => by
    unfold pset at h
    exact .inl (List.mem_singleton.1 h)
  | y :: P, p, v, x, h => by
    unfold pset at h
    split at h
    · rcases List.mem_cons.1 h with h | h
      · exact .inl h
      · exact .inr (List.mem_cons_of_mem _ h)
    · rcases List.mem_cons.1 h with h | h
      · exact .inr (h ▸ List.mem_cons_self ..)
      · rcases mem_pset P p v x h with h | h
        · exact .inl h
        · exact .inr (List.mem_cons_of_mem _ h)
theorem mem_pdel : ∀ (P : Pm) (p : Pl) (x), x ∈ pdel P p → x ∈ P
  | [], p, x, h => by unfold pdel at h; exact h
  | y :: P, p, x, h => by
    unfold pdel at h
    split at h
    · exact List.mem_cons_of_mem _ h
    · rcases List.mem_cons.1 h with h | h
      · exact h ▸ List.mem_cons_self ..
      · exact List.mem_cons_of_mem _ (mem_pdel P p x h)
theorem mem_pget : ∀ (P : Pm) (p : Pl) (v : Pt), pget P p = some v → (p, v) ∈ P
  | [], p, v, h => by unfold pget at h; cases h
  | y :: P, p, v, h => by
    unfold pget at h
    split at h
    · rename_i hp
      obtain rfl := Option.some.inj h
      rw [hp]; exact List.mem_cons_self ..
    · exact List.mem_cons_of_mem _ (mem_pget P p v h)
theorem pan_put {m : BitVec 64} {P : Pm} (h : PanOk m P) {l : BitVec 64} (hl : good m l) (k : Int) (p : Pl) (v : Int) : PanOk m (pput k P p v l) := by
  intro x hx
  rcases mem_pset P p _ x hx with h1 | h1
  · rw [h1]
    refine good_or ?_ hl
    cases hg : pget P p with
    | none => exact bl_zero m
    | some y => exact (h _ (mem_pget P p y hg)).1
  · exact h x h1
theorem pan_putL {m : BitVec 64} {l : BitVec 64} (hl : good m l) (k ky v : Int) : ∀ (L : List Int) (P : Pm), PanOk m P → PanOk m (putL k ky v l P L)
  | [], P, h => h
  | s :: L, P, h => pan_putL hl k ky v L _ (pan_put h hl k (s, ky) v)
theorem pan_del {m : BitVec 64} : ∀ (L : List Pl) (P : Pm), PanOk m P → PanOk m (L.foldl pdel P)
  | [], P, h => h
  | p :: L, P, h => pan_del L _ fun x hx => h x (mem_pdel P p x hx)
theorem row_good {m : BitVec 64} {P : Pm} (h : PanOk m P) {p : Pl} (hp : p ∈ pkeys P) : good m (rowP P p).2.2.2.2 := by
  have hp : p ∈ P.map (·.1) := (psort_perm _).mem_iff.1 hp
  obtain ⟨v, hv⟩ := pget_mem P p hp
  unfold rowP
  rw [hv]
  exact h _ (mem_pget P p v hv)
theorem ap_label (o : Int × Int) (e : Ev) (h : (R.ap o e).2 = true) : (R.ap o e).1.2.2.2 = e.2.2.2 := by
  unfold R.ap at h ⊢
  split
  · rfl
  · split
    · rfl
    · split
      · rfl
      · split
        · rfl
        · rename_i h1 h2 h3 h4
          rw [if_neg h1, if_neg h2, if_neg h3, if_neg h4] at h
          cases h
theorem rn_label : ∀ (l : List (Int × Int)) (e : Ev), (R.rn l e).2 = true → (R.rn l e).1.2.2.2 = e.2.2.2
  | [], e, _ => rfl
  | o :: l, e, h => by
    unfold R.rn at h ⊢
    split
    · rename_i h1
      rw [if_pos h1] at h
      rw [rn_label l _ h, ap_label o e h1]
    · rename_i h1
      rw [if_neg h1] at h; cases h
def InOk (m : BitVec 64) (i : In) : Prop := i.1 = false → evR i.2 = true ∧ bl i.2.2.2.2 m = true
theorem evR_label {e : Ev} (h : evR e = true) : e.2.2.2 ≠ 0 := by
  unfold evR at h
  simp only [Bool.and_eq_true] at h
  have := h.2
  simpa using this
theorem rnIn_lab {m : BitVec 64} {r : Ru} (h : PanOk m r.P) {i : In} (hi : InOk m i) : PanOk m (rnIn r i).1.P ∧ ∀ x ∈ (rnIn r i).2, good m x.2.2.2.2 := by
  unfold rnIn
  cases hm : i.1 with
  | true =>
    rw [if_pos rfl]
    split
    · refine ⟨pan_del _ _ h, fun x hx => ?_⟩
      obtain ⟨p, hp, rfl⟩ := List.mem_map.1 hx
      exact row_good h (List.mem_filter.1 hp).1
    · exact ⟨h, fun x hx => by simp at hx⟩
  | false =>
    rw [if_neg (by simp)]
    obtain ⟨h1, h2⟩ := hi hm
    refine ⟨?_, fun x hx => by simp at hx⟩
    show PanOk m (if (onF i.2.1 r.mark r.late r.seen).2.2 && (R.rn r.pp.1 i.2).2 then _ else r.P)
    split
    · rename_i hon
      rw [Bool.and_eq_true] at hon
      have hl := rn_label r.pp.1 i.2 hon.2
      exact pan_putL (by rw [hl]; exact ⟨h2, evR_label h1⟩) _ _ _ _ _ h
    · exact h
theorem rnTake_lab {m : BitVec 64} {r : Ru} (h : PanOk m r.P) (l : List In) : (∀ i ∈ l, InOk m i) → PanOk m (rnTake r l).1.P ∧ ∀ x ∈ (rnTake r l).2, good m x.2.2.2.2 := by
  refine snoc_ind (P := fun l => (∀ i ∈ l, InOk m i) → PanOk m (rnTake r l).1.P ∧ ∀ x ∈ (rnTake r l).2, good m x.2.2.2.2) (fun _ => ⟨h, fun x hx => by simp [rnTake] at hx⟩) (fun l i ih hl => ?_) l
  rw [rnTake_snoc]
  obtain ⟨i1, i2⟩ := ih fun j hj => hl j (List.mem_append.2 (.inl hj))
  obtain ⟨j1, j2⟩ := rnIn_lab i1 (hl i (List.mem_append.2 (.inr (List.mem_singleton.2 rfl))))
  exact ⟨j1, fun x hx => (List.mem_append.1 hx).elim (i2 x) (j2 x)⟩
structure LabOk (m : BitVec 64) (c : Cd) : Prop where
  ins : ∀ i ∈ c.taken ++ c.q, InOk m i
  rows : ∀ r ∈ c.rows, good m r.2.2.2.2
  pan : PanOk m c.run.P
theorem lab_new (m : BitVec 64) (id most : Int) (p : Pp) : LabOk m (newCd id most p) := ⟨fun i hi => by simp [newCd] at hi, fun r hr => by simp [newCd] at hr, fun x hx => by simp [newCd, newRu] at hx⟩
theorem lab_serve {m : BitVec 64} {c : Cd} (h : LabOk m c) (n : Int) : LabOk m (serve n c).1 := by
  have e : (serve n c).1.taken ++ (serve n c).1.q = c.taken ++ c.q := by
    show (c.taken ++ c.q.take (pk n c.q.length)) ++ c.q.drop (pk n c.q.length) = _
    rw [List.append_assoc, List.take_append_drop]
  obtain ⟨h1, h2⟩ := rnTake_lab h.pan (c.q.take (pk n c.q.length)) fun i hi => h.ins i (List.mem_append.2 (.inr (List.mem_of_mem_take hi)))
  exact ⟨by rw [e]; exact h.ins, fun r hr => (List.mem_append.1 hr).elim (h.rows r) (h2 r), h1⟩
theorem lab_more {m : BitVec 64} {c : Cd} (h : LabOk m c) {d : Cd} {i : In} (h1 : d.taken = c.taken) (h2 : d.q = c.q ++ [i]) (h3 : d.rows = c.rows) (h4 : d.run = c.run) (hi : InOk m i) : LabOk m d := by
  refine ⟨fun j hj => ?_, by rw [h3]; exact h.rows, by rw [h4]; exact h.pan⟩
  rw [h1, h2, ← List.append_assoc] at hj
  rcases List.mem_append.1 hj with hj | hj
  · exact h.ins j hj
  · rw [List.mem_singleton.1 hj]; exact hi
theorem lab_same {m : BitVec 64} {c : Cd} (h : LabOk m c) {d : Cd} (h1 : d.taken = c.taken) (h2 : d.q = c.q) (h3 : d.rows = c.rows) (h4 : d.run = c.run) : LabOk m d :=
  ⟨by rw [h1, h2]; exact h.ins, by rw [h3]; exact h.rows, by rw [h4]; exact h.pan⟩
theorem of_self {t : Int} {p : Pp} {ss : List Sk} (h : mayP t p ss = true) : bl (bt t) (ofP t p ss) = true := by
  unfold ofP R.ofF
  have h : R.mayF t p.1 p.2.1 p.2.2.1 p.2.2.2.1 p.2.2.2.2.1 p.2.2.2.2.2 ss = true := h
  rw [if_pos h]
  split
  · exact bl_refl _
  · exact bl_left _ _
theorem of_feed {t : Int} {p : Pp} {ss : List Sk} {i : Nat} {k : Sk} (h : mayP t p ss = true) (hk : ss[i]? = some k) (hf : p.2.2.2.2.2 = (i : Int)) : bl k.1 (ofP t p ss) = true := by
  unfold ofP R.ofF
  have h : R.mayF t p.1 p.2.1 p.2.2.1 p.2.2.2.1 p.2.2.2.2.1 p.2.2.2.2.2 ss = true := h
  rw [if_pos h, hf]
  split
  · rename_i h1
    simp at h1
  · rw [Int.toNat_natCast, hk]
    exact bl_right _ _
def Lw (ss : List Sk) (t : Nat) (c d : Cd) : Prop := d.run.pp = c.run.pp ∧ (mayP (t : Int) c.run.pp ss = true → LabOk (ofP (t : Int) c.run.pp ss) c → LabOk (ofP (t : Int) c.run.pp ss) d)
theorem lw_mv (ss : List Sk) : Mv ss (Lw ss) where
  refl := fun t c => ⟨rfl, fun _ h => h⟩
  trans := fun t a b c ⟨e1, h1⟩ ⟨e2, h2⟩ => ⟨e2.trans e1, fun hm h => by
    have := h2 (by rw [e1]; exact hm) (by rw [e1]; exact h1 hm h)
    rwa [e1] at this⟩
  off := fun t room i c hid => by
    have hq := offer_q room i c
    refine ⟨by rw [hq.1], fun hm h => ?_⟩
    unfold offer
    split
    · exact lab_same h rfl rfl rfl rfl
    · rename_i hown
      split
      · exact lab_same h rfl rfl rfl rfl
      · split
        · exact lab_same h rfl rfl rfl rfl
        · refine lab_more h (i := (ownI c.id i).1) rfl rfl rfl rfl ?_
          have hown : (ownI c.id i).2 = true := by simpa using hown
          unfold ownI at hown ⊢
          intro hf
          cases hi1 : i.1 with
          | true => rw [hi1] at hf; simp at hf
          | false =>
            rw [hi1] at hown
            rw [if_neg (by simp)] at hown ⊢
            exact ⟨hown, by show bl (bt c.id) _ = true; rw [hid]; exact of_self hm⟩
  srv := fun t n c => ⟨serve_pp n c, fun _ h => lab_serve h n⟩
  fed := fun t i k p tick c hk hw => by
    have hq := feed1_q k (rel i k p tick) t c
    refine ⟨by rw [hq.1], fun hm h => ?_⟩
    unfold feed1
    split
    · rename_i hcond
      rw [Bool.and_eq_true] at hcond
      have hfe : c.run.pp.2.2.2.2.2 = (i : Int) := by
        have := hcond.2
        unfold rel at this
        simpa using this
      unfold feedC
      split
      · rename_i hev
        exact lab_more h rfl rfl rfl rfl fun _ => ⟨hev, of_feed hm hk hfe⟩
      · exact h
    · exact h
def LabS (s : Cs) : Prop := ∀ t c, cell s t = some c → LabOk (ofP (t : Int) c.run.pp s.sinks) c
theorem lab_do {s : Cs} {n : Nat} (ok : CsOk s n) (h : LabS s) (a : Ac) : LabS (doS a s).1 := fun t d hd => by
  rw [(doS_same ok a).2.2.2]
  rcases do_step ok (lw_mv s.sinks) a t with ⟨_, h2⟩ | ⟨c, d', h1, h2, h3⟩ | ⟨_, p, _, h2⟩
  · rw [h2] at hd; cases hd
  · rw [h2] at hd; obtain rfl := Option.some.inj hd
    rw [h3.1]
    exact h3.2 (ok.cell _ _ h1).2.1 (h t c h1)
  · rw [h2] at hd; obtain rfl := Option.some.inj hd; exact lab_new _ _ _ _
theorem lab_doL {s : Cs} {n : Nat} (ok : CsOk s n) (hq : s.qu ≤ 4000) (h : LabS s) (l : List Ac) : n + 5 * l.length ≤ 9000 → LabS (doL l s).1 := by
  refine snoc_ind (P := fun l => n + 5 * l.length ≤ 9000 → LabS (doL l s).1) (fun _ => h) (fun l a ih hl => ?_) l
  rw [List.length_append, List.length_singleton] at hl
  have ok1 := (doL_ok ok hq l (by omega)).1
  rw [doL_snoc]
  exact lab_do ok1 (ih (by omega)) a
end Go.Proofs.YtcelailgedndnaaGreatS
namespace Go.Proofs.YtcelailgedndnaaGreatS
open Go.RowKit
set_option linter.unusedVariables false
set_option linter.unusedSimpArgs false
theorem cellI_j {s : Cs} {j : Nat} (h : j < 8) : cellI s (j : Int) = cell s j := by unfold cellI; rw [if_pos (by omega), Int.toNat_natCast]
set_option linter.unusedVariables false
set_option linter.unusedSimpArgs false
attribute [local irreducible] Ops Ex Spec T V QO OA Rn OS
set_option maxRecDepth 100000 in
set_option maxHeartbeats 16000000 in
theorem topLabels (z : Su) (a1 : Option Addr) (l : List R.Kn) (c1 : Nat) (hz : z.2.2.2.2.1.length ≤ maxLen) :
    Spec Tryz.prog 5 [.agg (suc z).toArray, .slice a1 l.length c1] (suH z * (rs a1 (l.flatMap R.kac) * pmS l)) (X := Unit) (fun _ => .bool true) (fun _ => True) (fun _ => 1) := by
  obtain ⟨bu, ro, qu, sa, sl, sc0⟩ := z
  have hz : sl.length ≤ maxLen := hz
  show Spec Tryz.prog 5 [.agg (List.toArray [.int .i64 bu, .int .i64 ro, .int .i64 qu, .slice sa sl.length sc0]), .slice a1 l.length c1] (rs sa (sl.flatMap R.kc) * (rs a1 (l.flatMap R.kac) * pmS l)) (X := Unit) (fun _ => .bool true) (fun _ => True) (fun _ => 1)
  have hset := fun (H' : HP) (h : RdC H' sa (sl.flatMap R.kc)) => setupK H' sa sl sc0 bu ro qu (hr := h) hz
  have ok0 := newCs_ok (wn bu 1 4) (wn ro 1 8) (wn qu 0 30) (kS sl) (Nat.le_trans (kS_len sl) (by decide))
  have hq0 : (newCs (wn bu 1 4) (wn ro 1 8) (wn qu 0 30) (kS sl)).qu ≤ 4000 := by
    have b3 := wn_bd qu 0 30 (by omega)
    show wn qu 0 30 ≤ 4000
    omega
  have lab0 : LabS (newCs (wn bu 1 4) (wn ro 1 8) (wn qu 0 30) (kS sl)) := fun t c h => by rw [cell_new] at h; cases h
  have hsk : (newCs (wn bu 1 4) (wn ro 1 8) (wn qu 0 30) (kS sl)).sinks = kS sl := rfl
  have hnew := fun (sb : Option Addr) (sd : Nat) (H' : HP) (h : RdC H' sb ((kS sl).flatMap sc)) => coNew H' sb (kS sl) sd (wn bu 1 4) (wn ro 1 8) (wn qu 0 30) (hr := h) (Nat.le_trans (kS_len sl) (by decide)) (kS_right bu ro qu sl)
  have hkl := kS_len sl
  generalize newCs (wn bu 1 4) (wn ro 1 8) (wn qu 0 30) (kS sl) = s0 at *
  have hacts := fun (X' H' : HP) (h1 : Take (pmS l) X' H') (h2 : RdC X' a1 (l.flatMap R.kac)) => actsK X' a1 c1 l (ha := h2) (rdc_pmS l)
  generalize wn bu 1 4 = bu' at *
  generalize wn ro 1 8 = ro' at *
  generalize wn qu 0 30 = qu' at *
  generalize kS sl = ks at *
  refine spec_of Tryz.func5 rfl Tryz.ntmps5 rfl ?_
  repeat' (first | (refine rG 0 [1, 2] ?_; ((try ((refine o_box (by decide) (v := .agg (List.toArray _)) rfl rfl (fun b5 => ?_)))) <;> (try (refine wK ?_; intro _)))) | (refine rG 1 [1, 5] ?_; ((try refine wO ?_) <;> (try ((refine o_callH (hset _ inferInstance) (by first | exact True.intro | (show _ < _; decide)) rfl rfl (fun y _ => ?_); obtain ⟨sb, sd⟩ := y))) <;> (try ((refine o_alloc_a (by decide) (fun b11 => ?_)))) <;> (try (refine wK ?_; intro _)))) | (refine rG 2 [1, 5, 6] ?_; ((try refine wO ?_) <;> (try ((refine o_callH (hnew _ _ _ inferInstance) (by first | exact True.intro | (show _ < _; decide)) rfl rfl (fun b _ => ?_)))) <;> (try (refine wK ?_; intro _)))) | (refine rG 3 [1, 5, 6, 19] ?_; ((try (refine wK ?_; intro _)))) | refine wC ?_ | (refine ex_split rfl ?_ ?_ <;> intro hc))
  have hdo := fun (ra : Option Addr) (rc : Nat) (A : List At) (hA : A.length ≤ 40) (ho : ∀ r ∈ A, actok r) (X' H' R' : HP) (h1 : Take (CO b s0) X' H') (h2 : RdC H' ra (A.flatMap ae)) (h3 : Take (orm A) H' R') => coDoN b s0 ra A rc (t := h1) (hr := h2) (rdc_orm A) (fun r hr => Nat.le_trans (ho r hr).2.2 (by decide)) ok0 hq0 (by omega)
  repeat' (first | (refine rG 5 [5, 6] ?_; ((try refine wO ?_) <;> (try ((refine o_callH (hacts _ _ inferInstance inferInstance) (by first | exact True.intro | (show _ < _; decide)) rfl rfl (fun y hy => ?_); obtain ⟨ra, rc, A⟩ := y; obtain ⟨hA, hrc, ho⟩ := hy))) <;> (try ((refine o_callH (hdo ra rc A hA ho _ _ _ inferInstance inferInstance inferInstance) (by first | exact True.intro | (show _ < _; decide)) rfl rfl (fun y hy => ?_); obtain ⟨qa, qc, B⟩ := y))) <;> (try (refine wK ?_; intro _)))) | (refine rG 6 [5, 6, 24] ?_; ((try (refine wK ?_; intro _)))) | refine wC ?_ | (refine ex_split rfl ?_ ?_ <;> intro hc))
  have hA : A.length ≤ 40 := hA
  obtain ⟨d1, _, d3, _⟩ := doL_ok ok0 hq0 (A.map (·.2.2)) (by rw [List.length_map]; omega)
  have ok1 : CsOk (doL (A.map (·.2.2)) s0).1 200 := d1.mono (by rw [List.length_map]; omega)
  have lab1 := lab_doL ok0 hq0 lab0 (A.map (·.2.2)) (by rw [List.length_map]; omega)
  rw [hsk] at d3
  clear d1 hdo
  generalize (doL (A.map (·.2.2)) s0).1 = s1 at *
  refine Ex.ent (H' := CO b s1 * (cl true b11 [.int .i64 bu', .int .i64 ro', .int .i64 qu', .slice sb ks.length sd] 27 (0, 0) * ow 74 5 sb ks.length sd (ks.flatMap sc))) ?_ (Ent.trans (ent_clL (b := b11) (l' := [.int .i64 bu', .int .i64 ro', .int .i64 qu', .slice sb ks.length sd]) rfl) ent_take)
  refine ex_loopE (fun mm e H' => ∃ g, ∃ j : Nat, e = put (put (put g 5 (.pointer (some ⟨b11, 0, none⟩))) 6 (.pointer (some ⟨b, 0, none⟩))) 24 (.int .i64 (j : Int)) ∧
    H' = CO b s1 * (cl true b11 [.int .i64 bu', .int .i64 ro', .int .i64 qu', .slice sb ks.length sd] 27 (0, 0) * ow 74 5 sb ks.length sd (ks.flatMap sc)) ∧ j ≤ 8 ∧ mm = 8 - j) (m := 8) ⟨_, 0, rfl, rfl, by omega, rfl⟩ ?_ ?_
  · exact Ent.refl _
  · rintro mm e H' ⟨g, j, rfl, rfl, hj, rfl⟩
    have ej : IntKind.i64.wrap ((j : Int) + 1) = ((j + 1 : Nat) : Int) := by rw [IntKind.wrap_i64]; omega
    by_cases hj8 : j < 8
    · have hd : decide ((j : Int) < 8) = true := decide_eq_true (by omega)
      cases hc : cell s1 j with
      | none =>
        have hcn := fun (X' H' : HP) (h : Take (CO b s1) X' H') => coCellN b s1 (j : Int) (t := h) ((cellI_j hj8).trans hc)
        repeat' (first | (refine rG 7 [5, 6, 24, 25] ?_; ((try (refine wK ?_; intro _)))) | (refine rG 8 [5, 6, 7, 24] ?_; ((try (refine wK ?_; intro _)))) | (refine rG 9 [5, 6, 7, 8, 24] ?_; ((try refine wO ?_) <;> (try ((refine o_callH (hcn _ _ inferInstance) (by first | exact True.intro | (show _ < _; decide)) rfl rfl (fun _ _ => ?_)))) <;> (try (refine wK ?_; intro _)))) | (refine rG 10 [5, 6, 7, 8, 24, 31] ?_; ((try (refine wK ?_; intro _)))) | (refine rG 26 [5, 6, 24] ?_; ((try (refine wK ?_; intro _)))) | refine wC ?_ | (refine ex_split rfl ?_ ?_ <;> intro hc))
        rw [ej]
        refine ⟨8 - (j + 1), by omega, _, ?_, _, j + 1, rfl, rfl, by omega, rfl⟩
        exact ent_take
      | some c =>
        have hcs := fun (X' H' : HP) (h : Take (CO b s1) X' H') => coCellS b s1 (j : Int) (t := h) ok1 (by decide) ((cellI_j hj8).trans hc)
        have hro : rowsOf s1 (j : Int) = c.rows := by unfold rowsOf; rw [cellI_j hj8, hc]
        have hrl := ok1.rle (j : Int)
        have hrw := fun (X' H' : HP) (h : Take (CO b s1) X' H') => topRows b s1 (j : Int) (t := h) ok1 (by decide) (by omega)
        rw [hro] at hrw hrl
        obtain ⟨ck, hmay, _⟩ := ok1.cell _ _ hc
        have hlab := lab1 j c hc
        rw [d3] at hmay hlab
        have k1 := ck.ins
        have k2 := ck.pan
        have k3 := ck.ops
        obtain ⟨le, sp, re, q, ⟨mk, lt, sn, ⟨ops, sz, slv, ag, sk, fd⟩, P⟩, id, rows, taken⟩ := c
        dsimp only at hrw hrl hmay k1 k2 k3
        have hmay : R.mayF (j : Int) ops sz slv ag sk fd ks = true := hmay
        have hlab : LabOk (R.ofF (j : Int) ops sz slv ag sk fd ks) ⟨le, sp, re, q, ⟨mk, lt, sn, ⟨ops, sz, slv, ag, sk, fd⟩, P⟩, id, rows, taken⟩ := hlab
        have hm1 := fun (H' : HP) (oa : Option Addr) (ocp : Nat) (h1 : RdC H' oa (ops.flatMap oc)) (h2 : RdC H' sb (ks.flatMap sc)) => R.may H' (j : Int) oa sb ops ks ops.length ocp ks.length sd sz slv ag sk fd (hr := h1) (hq := h2) rfl rfl (by omega) rfl rfl (by omega)
        have hof := fun (H' : HP) (oa : Option Addr) (ocp : Nat) (h1 : RdC H' oa (ops.flatMap oc)) (h2 : RdC H' sb (ks.flatMap sc)) => R.of2 H' (j : Int) oa sb ops ks ops.length ocp ks.length sd sz slv ag sk fd (hr := h1) (hq := h2) rfl rfl (by omega) rfl rfl (by omega)
        rw [hmay] at hm1
        generalize R.ofF (j : Int) ops sz slv ag sk fd ks = m at *
        obtain ⟨hins, hrows, hpan⟩ := hlab
        have hins : ∀ i ∈ taken ++ q, InOk m i := hins
        have hrows : ∀ r ∈ rows, good m r.2.2.2.2 := hrows
        have hpan : PanOk m P := hpan
        repeat' (first | (refine rG 7 [5, 6, 24, 25] ?_; ((try (refine wK ?_; intro _)))) | (refine rG 8 [5, 6, 7, 24] ?_; ((try (refine wK ?_; intro _)))) | (refine rG 9 [5, 6, 7, 8, 24] ?_; ((try refine wO ?_) <;> (try ((refine o_callH (hcs _ _ inferInstance) (by first | exact True.intro | (show _ < _; decide)) rfl rfl (fun yb _ => ?_)))) <;> (try (refine wK ?_; intro _)))) | (refine rG 10 [5, 6, 7, 8, 24, 31] ?_; ((try (refine wK ?_; intro _)))) | refine wC ?_ | (refine ex_split rfl ?_ ?_ <;> intro hc))
        refine ex_ce fun rb pb mb oa' ocp qa qc' ra' rc' ta tc hqc hrc' htc' => ?_
        simp only [RR_eq, sep_assoc]
        repeat' (first | (refine rA 11 [5, 6, 7, 8, 24, 60] 29 ?_; (refine os_all ?_); ((refine lQ 0 ?_; ((refine lQ 1 ?_; ((refine lQ 2 ?_; ((refine lQ 3 ?_; ((refine lQ 4 ?_; ((refine lQ 5 ?_; ((refine lQ 6 ?_; ((refine lQ 7 ?_; ((refine lQ 8 ?_; ((refine lQ 9 ?_; ((refine lQ 10 ?_; ((refine lQ 11 ?_; ((refine lQ 12 ?_; ((refine lQ 13 ?_; ((refine lQ 14 ?_; ((refine lQ 15 ?_; ((refine lQ 16 ?_; ((refine lQ 17 ?_; ((refine lQ 18 ?_; ((refine lQ 19 ?_; ((refine lQ 20 ?_; ((refine lQ 21 ?_; ((refine lQ 22 ?_; ((refine lQ 23 ?_; ((refine lQ 24 ?_; ((refine lQ 25 ?_; ((refine lC (v := ?_) 26 ?_ ?_; rotate_left; (focus (((refine wO ?_) <;> (try ((refine o_callH (hm1 _ oa' ocp inferInstance inferInstance) (by first | exact True.intro | (show _ < _; decide)) rfl rfl (fun _ _ => ?_))))) <;> exact lL)); ((refine lQ 27 ?_; ((refine lQ 28 ?_; ((refine dK ?_; intro _))))))))))))))))))))))))))))))))))))))))))))))))))))))))))))) | refine wC ?_ | (refine ex_split rfl ?_ ?_ <;> intro hc))
        repeat' (first | (refine rA 13 [5, 6, 7, 8, 9, 24] 12 ?_; (refine os_all ?_); ((refine lQ 0 ?_; ((refine lQ 1 ?_; ((refine lQ 2 ?_; ((refine lQ 3 ?_; ((refine lQ 4 ?_; ((refine lQ 5 ?_; ((refine lQ 6 ?_; ((refine lQ 7 ?_; ((refine lQ 8 ?_; ((refine lQ 9 ?_; ((refine lC (v := ?_) 10 ?_ ?_; rotate_left; (focus (((refine o_callH (hof _ oa' ocp inferInstance inferInstance) (by first | exact True.intro | (show _ < _; decide)) rfl rfl (fun _ _ => ?_))) <;> exact lL)); ((refine lQ 11 ?_; ((refine dK ?_; intro _))))))))))))))))))))))))))) | refine wC ?_ | (refine ex_split rfl ?_ ?_ <;> intro hc))
        have hXl : (rows ++ (pkeys P).map (rowP P)).length ≤ 1600 := by rw [List.length_append, List.length_map, pkeys_len]; omega
        refine R.ex_cut (fun e H' => ∃ G, ∃ xa, ∃ xc : Nat, e = put (put (put (put (put (put (put (put G 5 (.pointer (some ⟨b11, 0, none⟩))) 6 (.pointer (some ⟨b, 0, none⟩))) 8 (.pointer (some ⟨yb, 0, none⟩))) 9 (.int .u64 (U m))) 24 (.int .i64 (j : Int))) 83 (.slice xa (rows ++ (pkeys P).map (rowP P)).length xc)) 84 (.int .i64 ((rows ++ (pkeys P).map (rowP P)).length : Int))) 85 (.int .i64 (0 : Int)) ∧ (rows ++ (pkeys P).map (rowP P)).length ≤ xc ∧
          Ent H' (ow 67 5 xa (rows ++ (pkeys P).map (rowP P)).length xc ((rows ++ (pkeys P).map (rowP P)).flatMap rwc) * (cl true yb [.int .i64 le, .int .i64 sp, .int .i64 re, .slice qa q.length qc', .pointer (some ⟨rb, 0, none⟩), .int .i64 id, .slice ra' rows.length rc', .slice ta taken.length tc] 60 (0, 0) * (rs qa (q.flatMap inc) * (ow 39 5 ta taken.length tc (taken.flatMap inc) * (CO b s1 * (cl true b11 [.int .i64 bu', .int .i64 ro', .int .i64 qu', .slice sb ks.length sd] 27 (0, 0) * ow 74 5 sb ks.length sd (ks.flatMap sc)))))))) ?_ ?_
        · repeat' (first | (refine rA 14 [5, 6, 8, 9, 24, 83, 84, 85] 14 ?_; (refine os_all ?_); ((refine lQ 0 ?_; ((refine lQ 1 ?_; ((refine lQ 3 ?_; ((refine lQ 4 ?_; ((refine lQ 5 ?_; ((refine lQ 6 ?_; ((refine lQ 7 ?_; ((refine lQ 8 ?_; ((refine lQ 9 ?_; ((refine lQ 13 ?_; ((refine oN 2 ?_ <;> ((refine o_callH (hrw _ _ inferInstance) (by first | exact True.intro | (show _ < _; decide)) rfl rfl (fun y74 h74 => ?_))) <;> (refine os_nil ?_) <;> ((refine oN 10 ?_ <;> ((refine o_callH (pnOpen pb mb sz slv ag P (by omega)) (by first | exact True.intro | (show _ < _; decide)) rfl rfl (fun y82 h82 => ?_))) <;> (refine os_nil ?_) <;> ((refine oN 11 ?_ <;> ((refine o_appendT (cells := rwc) (xs := rows) (ys := (pkeys P).map (rowP P)) rwc_len rwc_one (by decide) rfl rfl rfl rfl rfl (by rw [List.length_append] at hXl; omega) (by rw [List.length_append] at hXl; simp only [maxLen]; omega) (fun a83 c83 h83 => ?_))) <;> (refine os_nil ?_) <;> ((refine lQ 12 ?_; ((refine dK ?_; intro _))))))))))))))))))))))))))))))) | refine wC ?_ | (refine ex_split rfl ?_ ?_ <;> intro hc))
          all_goals
            exact ⟨rfl, _, a83, c83, rfl, h83, ent_take⟩
        · rintro e H' ⟨G, xa, xc, rfl, hxc, hE⟩
          refine Ex.ent ?_ hE
          have hgood : ∀ x ∈ rows ++ (pkeys P).map (rowP P), good m x.2.2.2.2 := fun x hx => (List.mem_append.1 hx).elim (hrows x) fun h => by
            obtain ⟨p, hp, rfl⟩ := List.mem_map.1 h
            exact row_good hpan hp
          generalize rows ++ (pkeys P).map (rowP P) = XS at *
          refine R.ex_cut (fun e H' => ∃ G, ∃ xa, ∃ xc : Nat, ∃ i : Nat, ∃ v : Bool, e = put (put (put (put (put (put (put (put (put G 5 (.pointer (some ⟨b11, 0, none⟩))) 6 (.pointer (some ⟨b, 0, none⟩))) 8 (.pointer (some ⟨yb, 0, none⟩))) 9 (.int .u64 (U m))) 24 (.int .i64 (j : Int))) 83 (.slice xa XS.length xc)) 84 (.int .i64 (XS.length : Int))) 85 (.int .i64 (i : Int))) 86 (.bool v) ∧ Ent H' (cl true yb [.int .i64 le, .int .i64 sp, .int .i64 re, .slice qa q.length qc', .pointer (some ⟨rb, 0, none⟩), .int .i64 id, .slice ra' rows.length rc', .slice ta taken.length tc] 60 (0, 0) * (rs qa (q.flatMap inc) * (ow 39 5 ta taken.length tc (taken.flatMap inc) * (CO b s1 * (cl true b11 [.int .i64 bu', .int .i64 ro', .int .i64 qu', .slice sb ks.length sd] 27 (0, 0) * ow 74 5 sb ks.length sd (ks.flatMap sc))))))) ?_ ?_
          · generalize hZ : cl true yb [.int .i64 le, .int .i64 sp, .int .i64 re, .slice qa q.length qc', .pointer (some ⟨rb, 0, none⟩), .int .i64 id, .slice ra' rows.length rc', .slice ta taken.length tc] 60 (0, 0) * (rs qa (q.flatMap inc) * (ow 39 5 ta taken.length tc (taken.flatMap inc) * (CO b s1 * (cl true b11 [.int .i64 bu', .int .i64 ro', .int .i64 qu', .slice sb ks.length sd] 27 (0, 0) * ow 74 5 sb ks.length sd (ks.flatMap sc))))) = Z
            refine wC ?_
            refine ex_loopE (fun mm e H' => ∃ g, ∃ i : Nat, e = put (put (put (put (put (put (put (put g 5 (.pointer (some ⟨b11, 0, none⟩))) 6 (.pointer (some ⟨b, 0, none⟩))) 8 (.pointer (some ⟨yb, 0, none⟩))) 9 (.int .u64 (U m))) 24 (.int .i64 (j : Int))) 83 (.slice xa XS.length xc)) 84 (.int .i64 (XS.length : Int))) 85 (.int .i64 (i : Int)) ∧ H' = ow 67 5 xa XS.length xc (XS.flatMap rwc) * Z ∧ i ≤ XS.length ∧ mm = XS.length - i) (m := XS.length) ⟨_, 0, rfl, rfl, by omega, by omega⟩ ?_ ?_
            · exact Ent.refl _
            · rintro mm e H' ⟨g, i, rfl, rfl, hi, rfl⟩
              have ei : IntKind.i64.wrap ((i : Int) + 1) = ((i + 1 : Nat) : Int) := by rw [IntKind.wrap_i64]; omega
              by_cases hlt : i < XS.length
              · have hd : decide ((i : Int) < (XS.length : Int)) = true := decide_eq_true (by omega)
                have h0 : 0 ≤ (i : Int) := by omega
                have h1 : (i : Int) < (XS.length : Int) := by omega
                refine Ex.rd_some (a := xa) (l := XS.flatMap rwc) (by rw [flat_len rwc_len]; omega) (fun ad ha2 => ?_)
                subst ha2
                have hv : sub (XS.flatMap rwc) ((i : Int).toNat * 5) 5 = some (rwc XS[i]) := by rw [Int.toNat_natCast]; exact sub_flat rwc_len XS i hlt
                obtain ⟨g1, g2⟩ := hgood _ (List.getElem_mem hlt)
                generalize XS[i] = x at *
                obtain ⟨x1, x2, x3, x4, xl⟩ := x
                have g1 : bl xl m = true := g1
                have g2 : xl ≠ 0 := g2
                have dz : (U xl == 0) = false := by rw [← U_zero, U_eq]; exact decide_eq_false g2
                repeat' (first | (refine rG 15 [5, 6, 8, 9, 24, 83, 84, 85, 86] ?_; ((try (refine wK ?_; intro _)))) | (refine ex_regk (id := 16) (ts := [5, 6, 8, 9, 11, 24, 83, 84, 85]) ?_; ((try (refine o_index (by decide) rfl rfl (by first | decide | assumption | omega) (by first | decide | assumption | omega) ?_)) <;> (try (refine o_load_ra (vs := rwc (x1, x2, x3, x4, xl)) (by decide) rfl hv ?_)) <;> (try ((refine o_alloc_a (by decide) (fun b12 => ?_)))) <;> (try (first | refine o_store_a rfl rfl rfl rfl rfl ?_ | refine o_store_oa rfl rfl rfl (Nat.succ_pos _) rfl (by assumption) ?_)) <;> (try (refine ops_nilk ?_; intro _)) <;> (try ((first | refine keep_cons (v := .pointer _) rfl ?_ | refine keep_cons (v := _) rfl ?_) <;> (first | refine keep_cons (v := .pointer _) rfl ?_ | refine keep_cons (v := _) rfl ?_) <;> (first | refine keep_cons (v := .pointer _) rfl ?_ | refine keep_cons (v := _) rfl ?_) <;> (first | refine keep_cons (v := .int _ _) rfl ?_ | refine keep_cons (v := _) rfl ?_) <;> (first | refine keep_cons (v := .pointer _) rfl ?_ | refine keep_cons (v := _) rfl ?_) <;> (first | refine keep_cons (v := .int _ _) rfl ?_ | refine keep_cons (v := _) rfl ?_) <;> (first | refine keep_cons (v := .slice _ _ _) rfl ?_ | refine keep_cons (v := _) rfl ?_) <;> (first | refine keep_cons (v := .int _ _) rfl ?_ | refine keep_cons (v := _) rfl ?_) <;> (first | refine keep_cons (v := .int _ _) rfl ?_ | refine keep_cons (v := _) rfl ?_))) <;> (try refine keep_nil ?_))) | refine wC ?_ | (refine ex_split rfl ?_ ?_ <;> intro hc))
                refine Ex.ent ?_ (ent_clL (b := b12) (l' := rwc (x1, x2, x3, x4, xl)) rfl)
                repeat' (first | (refine rG 17 [5, 6, 8, 9, 24, 83, 84, 85, 98] ?_; ((try refine wO ?_) <;> (try ((refine o_call (belowV g1) (by first | exact True.intro | (show _ < _; decide)) rfl rfl (fun _ _ => ?_)))) <;> (try refine wO ?_) <;> (repeat' (refine g_split rfl (by decide) rfl (by decide) ?_ ?_ <;> intro hc <;> (try refine wO ?_))) <;> (try (refine wK ?_; intro _)))) | (refine rG 19 [5, 6, 8, 9, 24, 83, 84, 85] ?_; ((try (refine wK ?_; intro _)))) | refine wC ?_ | (refine ex_split rfl ?_ ?_ <;> intro hc))
                rw [ei]
                refine ⟨XS.length - (i + 1), by omega, _, ?_, _, i + 1, rfl, rfl, by omega, rfl⟩
                exact ent_take
              · have hd : decide ((i : Int) < (XS.length : Int)) = false := decide_eq_false (by omega)
                repeat' (first | (refine rG 15 [5, 6, 8, 9, 24, 83, 84, 85, 86] ?_; ((try (refine wK ?_; intro _)))) | refine wC ?_ | (refine ex_split rfl ?_ ?_ <;> intro hc))
                exact ⟨rfl, _, xa, xc, i, _, rfl, ent_take⟩
          · rintro e H' ⟨G, xa, xc, i0, v0, rfl, hE⟩
            refine Ex.ent ?_ hE
            refine ex_seq ?_
            have hil : (taken ++ q).length ≤ 200 := by rw [List.length_append]; omega
            refine R.ex_cut (fun e H' => ∃ G, ∃ ia, ∃ ic : Nat, e = put (put (put (put (put (put (put G 5 (.pointer (some ⟨b11, 0, none⟩))) 6 (.pointer (some ⟨b, 0, none⟩))) 9 (.int .u64 (U m))) 24 (.int .i64 (j : Int))) 107 (.slice ia (taken ++ q).length ic)) 108 (.int .i64 ((taken ++ q).length : Int))) 109 (.int .i64 (0 : Int)) ∧ (taken ++ q).length ≤ ic ∧
              Ent H' (ow 39 5 ia (taken ++ q).length ic ((taken ++ q).flatMap inc) * (CO b s1 * (cl true b11 [.int .i64 bu', .int .i64 ro', .int .i64 qu', .slice sb ks.length sd] 27 (0, 0) * ow 74 5 sb ks.length sd (ks.flatMap sc))))) ?_ ?_
            · repeat' (first | (refine rA 20 [5, 6, 9, 24, 107, 108, 109] 10 ?_; (refine os_all ?_); ((refine lQ 0 ?_; ((refine lQ 2 ?_; ((refine lQ 3 ?_; ((refine lQ 4 ?_; ((refine lC (v := ?_) 5 ?_ ?_; rotate_left; (focus ((refine o_load_a (vs := [.slice qa q.length qc']) (by decide) rfl rfl ?_) <;> exact lL)); ((refine lQ 9 ?_; ((refine oN 1 ?_ <;> ((refine o_callH (ceTaken yb _ _ _ _ _ _ _ ta taken tc _ (by omega)) (by first | exact True.intro | (show _ < _; decide)) rfl rfl (fun y101 h101 => ?_))) <;> (refine os_nil ?_) <;> ((refine oN 6 ?_ <;> ((refine o_callH (queAll _ qa q qc' (by omega)) (by first | exact True.intro | (show _ < _; decide)) rfl rfl (fun y106 h106 => ?_))) <;> (refine os_nil ?_) <;> ((refine oN 7 ?_ <;> ((refine o_appendT (cells := inc) (xs := taken) (ys := q) inc_len inc_one (by decide) rfl rfl rfl rfl rfl (by omega) (by simp only [maxLen]; omega) (fun a107 c107 h107 => ?_))) <;> (refine os_nil ?_) <;> ((refine lQ 8 ?_; ((refine dK ?_; intro _))))))))))))))))))))))) | refine wC ?_ | (refine ex_split rfl ?_ ?_ <;> intro hc))
              all_goals
                exact ⟨rfl, _, a107, c107, rfl, h107, ent_take⟩
            · rintro e H' ⟨G, ia, ic, rfl, hic, hE⟩
              refine Ex.ent ?_ hE
              generalize taken ++ q = I at *
              generalize hZ : CO b s1 * (cl true b11 [.int .i64 bu', .int .i64 ro', .int .i64 qu', .slice sb ks.length sd] 27 (0, 0) * ow 74 5 sb ks.length sd (ks.flatMap sc)) = Z
              refine wC ?_
              refine ex_loopE (fun mm e H' => ∃ g, ∃ i : Nat, e = put (put (put (put (put (put (put g 5 (.pointer (some ⟨b11, 0, none⟩))) 6 (.pointer (some ⟨b, 0, none⟩))) 9 (.int .u64 (U m))) 24 (.int .i64 (j : Int))) 107 (.slice ia I.length ic)) 108 (.int .i64 (I.length : Int))) 109 (.int .i64 (i : Int)) ∧ H' = ow 39 5 ia I.length ic (I.flatMap inc) * Z ∧ i ≤ I.length ∧ mm = I.length - i) (m := I.length) ⟨_, 0, rfl, rfl, by omega, by omega⟩ ?_ ?_
              · exact Ent.refl _
              · rintro mm e H' ⟨g, i, rfl, rfl, hi, rfl⟩
                have ei : IntKind.i64.wrap ((i : Int) + 1) = ((i + 1 : Nat) : Int) := by rw [IntKind.wrap_i64]; omega
                by_cases hlt : i < I.length
                · have hd : decide ((i : Int) < (I.length : Int)) = true := decide_eq_true (by omega)
                  have h0 : 0 ≤ (i : Int) := by omega
                  have h1 : (i : Int) < (I.length : Int) := by omega
                  refine Ex.rd_some (a := ia) (l := I.flatMap inc) (by rw [flat_len inc_len]; omega) (fun ad ha2 => ?_)
                  subst ha2
                  have hv : sub (I.flatMap inc) ((i : Int).toNat * 5) 5 = some (inc I[i]) := by rw [Int.toNat_natCast]; exact sub_flat inc_len I i hlt
                  have hio := hins _ (List.getElem_mem hlt)
                  generalize I[i] = x at *
                  obtain ⟨xm, xe⟩ := x
                  repeat' (first | (refine rG 21 [5, 6, 9, 24, 107, 108, 109, 110] ?_; ((try (refine wK ?_; intro _)))) | (refine ex_regk (id := 22) (ts := [5, 6, 9, 13, 24, 107, 108, 109]) ?_; ((try (refine o_index (by decide) rfl rfl (by first | decide | assumption | omega) (by first | decide | assumption | omega) ?_)) <;> (try (refine o_load_ra (vs := inc (xm, xe)) (by decide) rfl hv ?_)) <;> (try ((refine o_alloc_a (by decide) (fun b14 => ?_)))) <;> (try (first | refine o_store_a rfl rfl rfl rfl rfl ?_ | refine o_store_oa rfl rfl rfl (Nat.succ_pos _) rfl (by assumption) ?_)) <;> (try (refine ops_nilk ?_; intro _)) <;> (try ((first | refine keep_cons (v := .pointer _) rfl ?_ | refine keep_cons (v := _) rfl ?_) <;> (first | refine keep_cons (v := .pointer _) rfl ?_ | refine keep_cons (v := _) rfl ?_) <;> (first | refine keep_cons (v := .int _ _) rfl ?_ | refine keep_cons (v := _) rfl ?_) <;> (first | refine keep_cons (v := .pointer _) rfl ?_ | refine keep_cons (v := _) rfl ?_) <;> (first | refine keep_cons (v := .int _ _) rfl ?_ | refine keep_cons (v := _) rfl ?_) <;> (first | refine keep_cons (v := .slice _ _ _) rfl ?_ | refine keep_cons (v := _) rfl ?_) <;> (first | refine keep_cons (v := .int _ _) rfl ?_ | refine keep_cons (v := _) rfl ?_) <;> (first | refine keep_cons (v := .int _ _) rfl ?_ | refine keep_cons (v := _) rfl ?_))) <;> (try refine keep_nil ?_))) | refine wC ?_ | (refine ex_split rfl ?_ ?_ <;> intro hc))
                  refine Ex.ent ?_ (ent_clL (b := b14) (l' := inc (xm, xe)) rfl)
                  obtain ⟨xt, xk, xv, xl⟩ := xe
                  cases xm with
                  | true =>
                    repeat' (first | (refine rG 23 [5, 6, 9, 24, 107, 108, 109, 129] ?_; ((try refine wO ?_) <;> (repeat' (refine g_split rfl (by decide) rfl (by decide) ?_ ?_ <;> intro hc <;> (try refine wO ?_))) <;> (try (skip)) <;> (try refine wO ?_) <;> (repeat' (refine g_split rfl (by decide) rfl (by decide) ?_ ?_ <;> intro hc <;> (try refine wO ?_))) <;> (try (skip)) <;> (try refine wO ?_) <;> (repeat' (refine g_split rfl (by decide) rfl (by decide) ?_ ?_ <;> intro hc <;> (try refine wO ?_))) <;> (try (refine wK ?_; intro _)))) | (refine rG 25 [5, 6, 9, 24, 107, 108, 109] ?_; ((try (refine wK ?_; intro _)))) | refine wC ?_ | (refine ex_split rfl ?_ ?_ <;> intro hc))
                    rw [ei]
                    refine ⟨I.length - (i + 1), by omega, _, ?_, _, i + 1, rfl, rfl, by omega, rfl⟩
                    exact ent_take
                  | false =>
                    obtain ⟨g1, g2⟩ := hio rfl
                    have g1 : evR (xt, xk, xv, xl) = true := g1
                    have g2 : bl xl m = true := g2
                    repeat' (first | (refine ex_regk (id := 23) (ts := [5, 6, 9, 24, 107, 108, 109, 129]) ?_; ((try (refine o_fieldAddr' (by decide) rfl ?_)) <;> (try (first | refine o_load_s (v := .bool _) (by decide) rfl rfl ?_ | refine o_load_s (by decide) rfl rfl ?_ | refine o_load_r (by decide) rfl (by assumption) ?_ | refine o_load_r (v := .bool _) (by decide) rfl rfl ?_)) <;> (try (refine o_not (by decide) rfl ?_)) <;> (try (first | refine o_mv (v := .bool _) (by decide) rfl ?_ | refine o_mv (by decide) rfl ?_)) <;> (try (first | refine g_no rfl (by decide) rfl (by decide) ?_ | refine g_undef rfl rfl (by decide) ?_ | (refine g_yes rfl (by decide) rfl ?_; (refine o_fieldAddr' (by decide) rfl ?_)) | refine g_noF rfl (by decide) rfl (by assumption) (by decide) ?_ | (refine g_yesT rfl (by decide) rfl (by assumption) ?_; (refine o_fieldAddr' (by decide) rfl ?_)) | ((refine g_split rfl (by decide) rfl (by decide) ?_ ?_ <;> intro hc); (refine o_fieldAddr' (by decide) rfl ?_)))) <;> (try (first | refine g_no rfl (by decide) rfl (by decide) ?_ | refine g_undef rfl rfl (by decide) ?_ | (refine g_yes rfl (by decide) rfl ?_; (refine o_load_a (vs := R.ec (xt, xk, xv, xl)) (by decide) rfl rfl ?_)) | refine g_noF rfl (by decide) rfl (by assumption) (by decide) ?_ | (refine g_yesT rfl (by decide) rfl (by assumption) ?_; (refine o_load_a (vs := R.ec (xt, xk, xv, xl)) (by decide) rfl rfl ?_)) | ((refine g_split rfl (by decide) rfl (by decide) ?_ ?_ <;> intro hc); (refine o_load_a (vs := R.ec (xt, xk, xv, xl)) (by decide) rfl rfl ?_)))) <;> (try (first | refine g_no rfl (by decide) rfl (by decide) ?_ | refine g_undef rfl rfl (by decide) ?_ | (refine g_yes rfl (by decide) rfl ?_; ((refine o_call (evRight _ g1) (by first | exact True.intro | (show _ < _; decide)) rfl rfl (fun _ _ => ?_)))) | refine g_noF rfl (by decide) rfl (by assumption) (by decide) ?_ | (refine g_yesT rfl (by decide) rfl (by assumption) ?_; ((refine o_call (evRight _ g1) (by first | exact True.intro | (show _ < _; decide)) rfl rfl (fun _ _ => ?_)))) | ((refine g_split rfl (by decide) rfl (by decide) ?_ ?_ <;> intro hc); ((refine o_call (evRight _ g1) (by first | exact True.intro | (show _ < _; decide)) rfl rfl (fun _ _ => ?_)))))) <;> (try (first | refine g_no rfl (by decide) rfl (by decide) ?_ | refine g_undef rfl rfl (by decide) ?_ | (refine g_yes rfl (by decide) rfl ?_; (refine o_not (by decide) rfl ?_)) | refine g_noF rfl (by decide) rfl (by assumption) (by decide) ?_ | (refine g_yesT rfl (by decide) rfl (by assumption) ?_; (refine o_not (by decide) rfl ?_)) | ((refine g_split rfl (by decide) rfl (by decide) ?_ ?_ <;> intro hc); (refine o_not (by decide) rfl ?_)))) <;> (try (first | refine g_no rfl (by decide) rfl (by decide) ?_ | refine g_undef rfl rfl (by decide) ?_ | (refine g_yes rfl (by decide) rfl ?_; (first | refine o_mv (v := .bool _) (by decide) rfl ?_ | refine o_mv (by decide) rfl ?_)) | refine g_noF rfl (by decide) rfl (by assumption) (by decide) ?_ | (refine g_yesT rfl (by decide) rfl (by assumption) ?_; (first | refine o_mv (v := .bool _) (by decide) rfl ?_ | refine o_mv (by decide) rfl ?_)) | ((refine g_split rfl (by decide) rfl (by decide) ?_ ?_ <;> intro hc); (first | refine o_mv (v := .bool _) (by decide) rfl ?_ | refine o_mv (by decide) rfl ?_)))) <;> (try (first | refine g_no rfl (by decide) rfl (by decide) ?_ | refine g_undef rfl rfl (by decide) ?_ | (refine g_yes rfl (by decide) rfl ?_; (refine o_fieldAddr' (by decide) rfl ?_)) | refine g_noT rfl (by decide) rfl (by assumption) (by decide) ?_ | (refine g_yesF rfl (by decide) rfl (by assumption) ?_; (refine o_fieldAddr' (by decide) rfl ?_)) | ((refine g_split rfl (by decide) rfl (by decide) ?_ ?_ <;> intro hc); (refine o_fieldAddr' (by decide) rfl ?_)))) <;> (try (first | refine g_no rfl (by decide) rfl (by decide) ?_ | refine g_undef rfl rfl (by decide) ?_ | (refine g_yes rfl (by decide) rfl ?_; (refine o_fieldAddr' (by decide) rfl ?_)) | refine g_noT rfl (by decide) rfl (by assumption) (by decide) ?_ | (refine g_yesF rfl (by decide) rfl (by assumption) ?_; (refine o_fieldAddr' (by decide) rfl ?_)) | ((refine g_split rfl (by decide) rfl (by decide) ?_ ?_ <;> intro hc); (refine o_fieldAddr' (by decide) rfl ?_)))) <;> (try (first | refine g_no rfl (by decide) rfl (by decide) ?_ | refine g_undef rfl rfl (by decide) ?_ | (refine g_yes rfl (by decide) rfl ?_; (first | refine o_load_s (v := .int _ _) (by decide) rfl rfl ?_ | refine o_load_s (by decide) rfl rfl ?_ | refine o_load_r (by decide) rfl (by assumption) ?_ | refine o_load_r (v := .int _ _) (by decide) rfl rfl ?_)) | refine g_noT rfl (by decide) rfl (by assumption) (by decide) ?_ | (refine g_yesF rfl (by decide) rfl (by assumption) ?_; (first | refine o_load_s (v := .int _ _) (by decide) rfl rfl ?_ | refine o_load_s (by decide) rfl rfl ?_ | refine o_load_r (by decide) rfl (by assumption) ?_ | refine o_load_r (v := .int _ _) (by decide) rfl rfl ?_)) | ((refine g_split rfl (by decide) rfl (by decide) ?_ ?_ <;> intro hc); (first | refine o_load_s (v := .int _ _) (by decide) rfl rfl ?_ | refine o_load_s (by decide) rfl rfl ?_ | refine o_load_r (by decide) rfl (by assumption) ?_ | refine o_load_r (v := .int _ _) (by decide) rfl rfl ?_)))) <;> (try (first | refine g_no rfl (by decide) rfl (by decide) ?_ | refine g_undef rfl rfl (by decide) ?_ | (refine g_yes rfl (by decide) rfl ?_; (first | refine o_mv (v := .int _ _) (by decide) rfl ?_ | refine o_mv (by decide) rfl ?_)) | refine g_noT rfl (by decide) rfl (by assumption) (by decide) ?_ | (refine g_yesF rfl (by decide) rfl (by assumption) ?_; (first | refine o_mv (v := .int _ _) (by decide) rfl ?_ | refine o_mv (by decide) rfl ?_)) | ((refine g_split rfl (by decide) rfl (by decide) ?_ ?_ <;> intro hc); (first | refine o_mv (v := .int _ _) (by decide) rfl ?_ | refine o_mv (by decide) rfl ?_)))) <;> (try (first | refine g_no rfl (by decide) rfl (by decide) ?_ | refine g_undef rfl rfl (by decide) ?_ | (refine g_yes rfl (by decide) rfl ?_; ((refine o_call (belowV g2) (by first | exact True.intro | (show _ < _; decide)) rfl rfl (fun _ _ => ?_)))) | refine g_noT rfl (by decide) rfl (by assumption) (by decide) ?_ | (refine g_yesF rfl (by decide) rfl (by assumption) ?_; ((refine o_call (belowV g2) (by first | exact True.intro | (show _ < _; decide)) rfl rfl (fun _ _ => ?_)))) | ((refine g_split rfl (by decide) rfl (by decide) ?_ ?_ <;> intro hc); ((refine o_call (belowV g2) (by first | exact True.intro | (show _ < _; decide)) rfl rfl (fun _ _ => ?_)))))) <;> (try (first | refine g_no rfl (by decide) rfl (by decide) ?_ | refine g_undef rfl rfl (by decide) ?_ | (refine g_yes rfl (by decide) rfl ?_; (refine o_not (by decide) rfl ?_)) | refine g_noT rfl (by decide) rfl (by assumption) (by decide) ?_ | (refine g_yesF rfl (by decide) rfl (by assumption) ?_; (refine o_not (by decide) rfl ?_)) | ((refine g_split rfl (by decide) rfl (by decide) ?_ ?_ <;> intro hc); (refine o_not (by decide) rfl ?_)))) <;> (try (first | refine g_no rfl (by decide) rfl (by decide) ?_ | refine g_undef rfl rfl (by decide) ?_ | (refine g_yes rfl (by decide) rfl ?_; (first | refine o_pick_t (v := .bool _) (by decide) rfl rfl ?_ | refine o_pick_f (v := .bool _) (by decide) rfl rfl ?_)) | refine g_noF rfl (by decide) rfl (by assumption) (by decide) ?_ | (refine g_yesT rfl (by decide) rfl (by assumption) ?_; (first | refine o_pick_t (v := .bool _) (by decide) rfl rfl ?_ | refine o_pick_f (v := .bool _) (by decide) rfl rfl ?_)) | ((refine g_split rfl (by decide) rfl (by decide) ?_ ?_ <;> intro hc); (first | refine o_pick_t (v := .bool _) (by decide) rfl rfl ?_ | refine o_pick_f (v := .bool _) (by decide) rfl rfl ?_)))) <;> (try (first | refine o_pick_t (v := .bool _) (by decide) rfl rfl ?_ | refine o_pick_f (v := .bool _) (by decide) rfl rfl ?_)) <;> (try (refine ops_nilk ?_; intro _)) <;> (try ((first | refine keep_cons (v := .pointer _) rfl ?_ | refine keep_cons (v := _) rfl ?_) <;> (first | refine keep_cons (v := .pointer _) rfl ?_ | refine keep_cons (v := _) rfl ?_) <;> (first | refine keep_cons (v := .int _ _) rfl ?_ | refine keep_cons (v := _) rfl ?_) <;> (first | refine keep_cons (v := .int _ _) rfl ?_ | refine keep_cons (v := _) rfl ?_) <;> (first | refine keep_cons (v := .slice _ _ _) rfl ?_ | refine keep_cons (v := _) rfl ?_) <;> (first | refine keep_cons (v := .int _ _) rfl ?_ | refine keep_cons (v := _) rfl ?_) <;> (first | refine keep_cons (v := .int _ _) rfl ?_ | refine keep_cons (v := _) rfl ?_) <;> (first | refine keep_cons (v := .bool _) rfl ?_ | refine keep_cons (v := _) rfl ?_))) <;> (try refine keep_nil ?_))) | (refine rG 25 [5, 6, 9, 24, 107, 108, 109] ?_; ((try (refine wK ?_; intro _)))) | refine wC ?_ | (refine ex_split rfl ?_ ?_ <;> intro hc))
                    rw [ei]
                    refine ⟨I.length - (i + 1), by omega, _, ?_, _, i + 1, rfl, rfl, by omega, rfl⟩
                    exact ent_take
                · have hd : decide ((i : Int) < (I.length : Int)) = false := decide_eq_false (by omega)
                  repeat' (first | (refine rG 21 [5, 6, 9, 24, 107, 108, 109, 110] ?_; ((try (refine wK ?_; intro _)))) | (refine rG 26 [5, 6, 24] ?_; ((try (refine wK ?_; intro _)))) | refine wC ?_ | (refine ex_split rfl ?_ ?_ <;> intro hc))
                  subst hZ
                  rw [ej]
                  refine ⟨8 - (j + 1), by omega, _, ?_, _, j + 1, rfl, rfl, by omega, rfl⟩
                  exact ent_take
    · have hd : decide ((j : Int) < 8) = false := decide_eq_false (by omega)
      repeat' (first | (refine rG 7 [5, 6, 24, 25] ?_; ((try (refine wK ?_; intro _)))) | (refine rG 27 [4] ?_; ((try ((refine o_call awakeK (by first | exact True.intro | (show _ < _; decide)) rfl rfl (fun _ _ => ?_)))) <;> (try (refine wK ?_; intro _)))) | refine wC ?_ | (refine ex_split rfl ?_ ?_ <;> intro hc))
      exact fin (.inr rfl) () (resl1 rfl (rv_tmp rfl)) trivial (Ent.toOne _)
end Go.Proofs.YtcelailgedndnaaGreatS
