/- Contracts of the functions that the statement reaches: the walk of the program by the small logic, part 1: P1, P2, F1, F2. No condition beyond what each theorem states. -/
import Derived.Test.YtcelailgedndnaaGreatZ8
namespace Go.Proofs.YtcelailgedndnaaGreatS
open Go.RowKit
set_option linter.unusedVariables false
set_option linter.unusedSimpArgs false
/-- What an act may do to a tenant's cell that is there: R holds of each step, and of steps in a row. -/
structure Mv (ss : List Sk) (R : Nat → Cd → Cd → Prop) : Prop where
  refl : ∀ t c, R t c c
  trans : ∀ t a b c, R t a b → R t b c → R t a c
  off : ∀ (t : Nat) room i c, c.id = (t : Int) → R t c (offer room i c).1
  srv : ∀ t n c, R t c (serve n c).1
  fed : ∀ t i k p tick c, ss[i]? = some k → few p k = false → R t c (feed1 k (rel i k p tick) t c)
def RS (R : Nat → Cd → Cd → Prop) (s s' : Cs) : Prop := s'.sinks = s.sinks ∧ ∀ t, (cell s t = none ∧ cell s' t = none) ∨ ∃ c d, cell s t = some c ∧ cell s' t = some d ∧ R t c d
section
variable {R : Nat → Cd → Cd → Prop} {ss : List Sk}
theorem RS.same (m : Mv ss R) {s s' : Cs} (h1 : s'.sinks = s.sinks) (h2 : ∀ t, cell s' t = cell s t) : RS R s s' := ⟨h1, fun t => by
  rw [h2]
  cases h : cell s t with
  | none => exact .inl ⟨rfl, rfl⟩
  | some c => exact .inr ⟨c, c, rfl, rfl, m.refl t c⟩⟩
theorem RS.trans (m : Mv ss R) {a b c : Cs} (h1 : RS R a b) (h2 : RS R b c) : RS R a c := ⟨h2.1.trans h1.1, fun t => by
  rcases h1.2 t with ⟨x1, x2⟩ | ⟨c1, c2, x1, x2, x3⟩
  · rcases h2.2 t with ⟨y1, y2⟩ | ⟨d1, d2, y1, y2, y3⟩
    · exact .inl ⟨x1, y2⟩
    · rw [x2] at y1; cases y1
  · rcases h2.2 t with ⟨y1, y2⟩ | ⟨d1, d2, y1, y2, y3⟩
    · rw [x2] at y1; cases y1
    · rw [x2] at y1
      obtain rfl := Option.some.inj y1
      exact .inr ⟨c1, d2, x1, y2, m.trans t _ _ _ x3 y3⟩⟩
theorem serve1_rs (m : Mv ss R) (t : Nat) (k : Int) (s : Cs) : RS R s (serve1 t k s) := by
  cases hc : cell s t with
  | none => rw [serve1_none hc]; exact RS.same m rfl fun _ => rfl
  | some c =>
    rw [serve1_some hc]
    refine ⟨rfl, fun u => ?_⟩
    rw [cell_set (cell_lt hc)]
    by_cases hu : u = t
    · subst hu
      rw [if_pos rfl]
      exact .inr ⟨c, _, hc, rfl, m.srv _ _ _⟩
    · rw [if_neg hu]
      cases h : cell s u with
      | none => exact .inl ⟨rfl, rfl⟩
      | some d => exact .inr ⟨d, d, rfl, rfl, m.refl u d⟩
theorem fold_rs (m : Mv ss R) {α : Type} (f : Cs → α → Cs) (hf : ∀ s x, s.sinks = ss → RS R s (f s x)) : ∀ (l : List α) (s : Cs), s.sinks = ss → RS R s (l.foldl f s)
  | [], s, _ => RS.same m rfl fun _ => rfl
  | x :: l, s, h => by
    have h1 := hf s x h
    exact h1.trans m (fold_rs m f hf l (f s x) (h1.1.trans h))
theorem tick1_rs (m : Mv ss R) (i : Nat) (s : Cs) (hs : s.sinks = ss) : RS R s (tick1 i s) := by
  unfold tick1
  cases hk : s.sinks[i]? with
  | none => exact RS.same m rfl fun _ => rfl
  | some k =>
    cases hp : s.pots[i]? with
    | none => exact RS.same m rfl fun _ => rfl
    | some p =>
      simp only
      split
      · cases hw : few p.2 k with
        | true => rw [if_pos rfl]; exact RS.same m rfl fun _ => rfl
        | false =>
          rw [if_neg (by simp)]
          refine ⟨rfl, fun t => ?_⟩
          rw [cell_feed]
          show (cell s t = none ∧ (cell s t).map _ = none) ∨ _
          cases h : cell s t with
          | none => exact .inl ⟨rfl, rfl⟩
          | some c => exact .inr ⟨c, _, rfl, (congrArg (Option.map _) h), m.fed t i k p.2 s.ticks c (hs ▸ hk) hw⟩
      · exact RS.same m rfl fun _ => rfl
theorem tickS_rs (m : Mv ss R) (s : Cs) (hs : s.sinks = ss) : RS R s (tickS s) := by
  have h1 : RS R s (serveAll s) := fold_rs m _ (fun x t _ => serve1_rs m t _ x) _ s hs
  have h2 : RS R (serveAll s) { serveAll s with ticks := IntKind.i64.wrap (s.ticks + 1) } := RS.same m rfl fun _ => rfl
  have h3 := h1.trans m h2
  exact h3.trans m (fold_rs m _ (fun x i hx => tick1_rs m i x hx) _ _ (h3.1.trans hs))
/-- What an act does to each tenant's cell. -/
theorem do_step {s : Cs} {n : Nat} (ok : CsOk s n) (m : Mv s.sinks R) (a : Ac) (t : Nat) : (cell s t = none ∧ cell (doS a s).1 t = none) ∨ (∃ c d, cell s t = some c ∧ cell (doS a s).1 t = some d ∧ R t c d) ∨
    (cell s t = none ∧ ∃ p, mayP (t : Int) p s.sinks = true ∧ cell (doS a s).1 t = some (newCd (t : Int) s.qu p)) := by
  have same : ∀ s', (∀ u, cell s' u = cell s u) → (cell s t = none ∧ cell s' t = none) ∨ (∃ c d, cell s t = some c ∧ cell s' t = some d ∧ R t c d) ∨ (cell s t = none ∧ ∃ p, mayP (t : Int) p s.sinks = true ∧ cell s' t = some (newCd (t : Int) s.qu p)) := fun s' h2 => by
    rw [h2]
    cases h : cell s t with
    | none => exact .inl ⟨rfl, rfl⟩
    | some c => exact .inr (.inl ⟨c, c, rfl, rfl, m.refl t c⟩)
  obtain ⟨kd, tn, fr, nn, p, i⟩ := a
  unfold doS
  split
  · show (cell s t = none ∧ cell (register tn p s).1 t = none) ∨ (∃ c d, cell s t = some c ∧ cell (register tn p s).1 t = some d ∧ R t c d) ∨ (cell s t = none ∧ ∃ p', mayP (t : Int) p' s.sinks = true ∧ cell (register tn p s).1 t = some (newCd (t : Int) s.qu p'))
    unfold register
    split
    · exact same _ fun _ => rfl
    · rename_i h7
      have h7 : 0 ≤ tn ∧ tn ≤ 7 := Decidable.not_not.1 h7
      split
      · exact same _ fun _ => rfl
      · rename_i hsome
        split
        · exact same _ fun _ => rfl
        · rename_i hmay
          have hmay : mayP tn p s.sinks = true := by simpa using hmay
          have hcs := cell_set (s := s) (t := tn.toNat) (x := some (newCd tn s.qu p)) (P := s.pots) (by rw [ok.c8]; omega) t
          simp only
          rw [hcs]
          by_cases hu : t = tn.toNat
          · rw [if_pos hu]
            have htn : ((t : Nat) : Int) = tn := by omega
            refine .inr (.inr ⟨?_, p, by rw [htn]; exact hmay, by rw [htn]⟩)
            rw [hu]
            cases hcc : cell s tn.toNat with
            | none => rfl
            | some c => rw [hcc] at hsome; simp at hsome
          · rw [if_neg hu]
            exact same s fun _ => rfl
  · split
    · rcases (tickS_rs m s rfl).2 t with h | h
      · exact .inl h
      · exact .inr (.inl h)
    · split
      · exact same _ fun _ => rfl
      · split
        · exact same _ fun _ => rfl
        · cases hc : cellI s tn with
          | none => exact same s fun _ => rfl
          | some c =>
            simp only [hc]
            split
            · have h7 : 0 ≤ tn ∧ tn ≤ 7 := by
                unfold cellI at hc
                split at hc
                · assumption
                · cases hc
              have hc' : cell s tn.toNat = some c := by
                unfold cellI at hc
                rwa [if_pos h7] at hc
              have hcs := cell_set (s := s) (t := tn.toNat) (x := some (offer s.ro i c).1) (P := s.pots) (by rw [ok.c8]; omega) t
              simp only
              rw [hcs]
              by_cases hu : t = tn.toNat
              · rw [if_pos hu, hu, hc']
                exact .inr (.inl ⟨c, _, rfl, rfl, m.off _ _ _ _ (ok.cell _ _ hc').2.2⟩)
              · rw [if_neg hu]
                exact same s fun _ => rfl
            · exact same s fun _ => rfl
end
/-! ### The rows are what the pipe makes of what was taken -/
theorem rnTake_app (r : Ru) (l m : List In) : rnTake r (l ++ m) = ((rnTake (rnTake r l).1 m).1, (rnTake r l).2 ++ (rnTake (rnTake r l).1 m).2) := by
  refine snoc_ind (P := fun m => rnTake r (l ++ m) = ((rnTake (rnTake r l).1 m).1, (rnTake r l).2 ++ (rnTake (rnTake r l).1 m).2)) ?_ (fun m i ih => ?_) m
  · rw [List.append_nil]; show _ = ((rnTake r l).1, (rnTake r l).2 ++ []); rw [List.append_nil]
  · rw [← List.append_assoc, rnTake_snoc, ih, rnTake_snoc, List.append_assoc]
def Tel (c : Cd) : Prop := rnTake (newRu c.run.pp) c.taken = (c.run, c.rows)
theorem tel_new (id most : Int) (p : Pp) : Tel (newCd id most p) := rfl
theorem tel_serve {c : Cd} (h : Tel c) (n : Int) : Tel (serve n c).1 := by
  unfold Tel at *
  rw [serve_pp]
  show rnTake (newRu c.run.pp) (c.taken ++ c.q.take (pk n c.q.length)) = _
  rw [rnTake_app, h]
  rfl
theorem feed1_q (k : Sk) (r : Bd.Rl) (t : Nat) (c : Cd) : (feed1 k r t c).run = c.run ∧ (feed1 k r t c).taken = c.taken ∧ (feed1 k r t c).rows = c.rows := by
  unfold feed1 feedC
  split
  · split <;> exact ⟨rfl, rfl, rfl⟩
  · exact ⟨rfl, rfl, rfl⟩
theorem offer_q (room : Int) (i : In) (c : Cd) : (offer room i c).1.run = c.run ∧ (offer room i c).1.taken = c.taken ∧ (offer room i c).1.rows = c.rows := by
  unfold offer refuse
  split
  · exact ⟨rfl, rfl, rfl⟩
  · split
    · exact ⟨rfl, rfl, rfl⟩
    · split <;> exact ⟨rfl, rfl, rfl⟩
def Gw (t : Nat) (c d : Cd) : Prop := (Tel c → Tel d) ∧ ∃ r, d.rows = c.rows ++ r
theorem gw_mv (ss : List Sk) : Mv ss Gw where
  refl := fun t c => ⟨id, [], (List.append_nil _).symm⟩
  trans := fun t a b c ⟨h1, r1, e1⟩ ⟨h2, r2, e2⟩ => ⟨fun h => h2 (h1 h), r1 ++ r2, by rw [e2, e1, List.append_assoc]⟩
  off := fun t room i c _ => by
    obtain ⟨e1, e2, e3⟩ := offer_q room i c
    exact ⟨fun h => by unfold Tel at *; rw [e1, e2, e3]; exact h, [], by rw [e3, List.append_nil]⟩
  srv := fun t n c => ⟨fun h => tel_serve h n, _, rfl⟩
  fed := fun t i k p tick c _ _ => by
    obtain ⟨e1, e2, e3⟩ := feed1_q k (rel i k p tick) t c
    exact ⟨fun h => by unfold Tel at *; rw [e1, e2, e3]; exact h, [], by rw [e3, List.append_nil]⟩
/-- Each tenant's rows are told by what it took. -/
def TelS (s : Cs) : Prop := ∀ t c, cell s t = some c → Tel c
theorem tel_do {s : Cs} {n : Nat} (ok : CsOk s n) (h : TelS s) (a : Ac) : TelS (doS a s).1 := fun t d hd => by
  rcases do_step ok (gw_mv s.sinks) a t with ⟨_, h2⟩ | ⟨c, d', h1, h2, h3⟩ | ⟨_, p, _, h2⟩
  · rw [h2] at hd; cases hd
  · rw [h2] at hd; obtain rfl := Option.some.inj hd; exact h3.1 (h t c h1)
  · rw [h2] at hd; obtain rfl := Option.some.inj hd; exact tel_new _ _ _
end Go.Proofs.YtcelailgedndnaaGreatS
namespace Go.Proofs.YtcelailgedndnaaGreatS
open Go.RowKit
set_option linter.unusedVariables false
set_option linter.unusedSimpArgs false
theorem CdOk.rle {c : Cd} {n : Nat} (h : CdOk c n) : c.rows.length ≤ 8 * n := by
  have := h.pan
  have := h.ins
  omega
theorem CsOk.rle {s : Cs} {n : Nat} (h : CsOk s n) (t : Int) : (rowsOf s t).length ≤ 8 * n := by
  unfold rowsOf
  cases hc : cellI s t with
  | none => exact Nat.zero_le _
  | some c =>
    unfold cellI at hc
    split at hc
    · exact (h.cell _ _ hc).1.rle
    · cases hc
theorem cell_new (bu ro qu : Int) (l : List Sk) (t : Nat) : cell (newCs bu ro qu l) t = none := by
  unfold cell newCs
  simp only [List.getElem?_replicate]
  split <;> rfl
theorem cellI_nat {s : Cs} {t : Int} (h : 0 ≤ t ∧ t ≤ 7) : cellI s t = cell s t.toNat := by unfold cellI; rw [if_pos h]
theorem rdc_Ko {X H K : HP} {oa : Option Addr} {c : List Value} (hK : RdP K oa c) [t : Take K X H] : RdC X oa c := by
  rw [t.eq]
  exact ⟨hK.left H⟩
set_option linter.unusedVariables false
set_option linter.unusedSimpArgs false
attribute [local irreducible] Ops Ex Spec T V QO OA Rn OS
set_option maxHeartbeats 8000000 in
theorem wholeRows (H : HP) (p : Pp) (a : Option Addr) (cap : Nat) (ia : Option Addr) (l : List In) (ic : Nat) [hr : RdC H a (p.1.flatMap oc)] [hi : RdC H ia (l.flatMap inc)] (hp : pir p = true) (hn : 8 * l.length ≤ 100000) :
    Spec Tryz.prog 26 [.agg (ppc a cap p).toArray, .slice ia l.length ic] H (X := Option Addr × Nat) (fun y => .slice y.1 (rnTake (newRu p) l).2.length y.2) (fun y => (rnTake (newRu p) l).2.length ≤ y.2)
      (fun y => ow 67 5 y.1 (rnTake (newRu p) l).2.length y.2 ((rnTake (newRu p) l).2.flatMap rwc) * H) := by
  have hl6 := pir_len hp
  have hnew := fun (H' : HP) (h : RdC H' a (p.1.flatMap oc)) => ruNew H' p a cap (hr := h) hp (by omega)
  have hok : RuOk (newRu p) 0 := ⟨by show p.1.length ≤ 100; omega, by show (([] : Pm).map (·.1)).Nodup; simp, Nat.le_refl _⟩
  have htk := fun (rb pb mb : Nat) (oa : Option Addr) (ocp : Nat) (X' H' : HP) (h : Take (RR rb pb mb oa ocp (newRu p)) X' H') (h2 : RdC H' ia (l.flatMap inc)) => ruTake rb pb mb oa ocp (newRu p) ia l ic (t := h) (hr := h2) hok (by omega)
  refine spec_of Tryz.func26 rfl Tryz.ntmps26 rfl ?_
  repeat' (first | (refine rG 0 [1, 2] ?_; ((try ((refine o_box (by decide) (v := .agg (ppc a cap p).toArray) rfl rfl (fun b2 => ?_)))) <;> (try (refine wK ?_; intro _)))) | (refine ex_regk (id := 1) (ts := [1, 5]) ?_; ((try (refine o_load_a (vs := ppc a cap p) (by decide) rfl rfl ?_)) <;> (try ((refine o_callH (hnew _ inferInstance) (by first | exact True.intro | (show _ < _; decide)) rfl rfl (fun y _ => ?_); obtain ⟨rb, pb, mb, oa, ocp⟩ := y))) <;> (try (first | refine o_as (v := .pointer _) (by decide) rfl ?_ | refine o_as (by decide) rfl ?_)) <;> (try (refine ops_nilk ?_; intro _)) <;> (try ((first | refine keep_cons (v := .slice _ _ _) rfl ?_ | refine keep_cons (v := _) rfl ?_) <;> (first | refine keep_cons (v := .pointer _) rfl ?_ | refine keep_cons (v := _) rfl ?_))) <;> (try refine keep_nil ?_))) | (refine rG 2 [1, 5, 9] ?_; ((try (refine wK ?_; intro _)))) | refine wC ?_ | (refine ex_split rfl ?_ ?_ <;> intro hc))
  repeat' (first | (refine rG 4 [4] ?_; ((try refine wO ?_) <;> (try ((refine o_callH (htk rb pb mb oa ocp _ _ inferInstance inferInstance) (by first | exact True.intro | (show _ < _; decide)) rfl rfl (fun y hy => ?_); obtain ⟨ya, yc⟩ := y))) <;> (try (refine wK ?_; intro _)))) | refine wC ?_ | (refine ex_split rfl ?_ ?_ <;> intro hc))
  refine fin (.inr rfl) (ya, yc) (resl1 rfl (rv_tmp rfl)) hy ?_
  exact ent_take
theorem wholePrefix (H : HP) (a b : Option Addr) (l r : List Rw) (ca cb : Nat) [ha : RdC H a (l.flatMap rwc)] [hb : RdC H b ((l ++ r).flatMap rwc)] (hc : (l ++ r).length ≤ cb) (hl : l.length ≤ 1000000) :
    Spec Tryz.prog 34 [.slice a l.length ca, .slice b (l ++ r).length cb] H (X := Unit) (fun _ => .bool true) (fun _ => True) (fun _ => H) := by
  have hd : decide ((l.length : Int) ≤ ((l ++ r).length : Int)) = true := decide_eq_true (by rw [List.length_append]; omega)
  have hlr : l.length ≤ (l ++ r).length := by rw [List.length_append]; omega
  have htk : (l ++ r).take l.length = l := by simp
  have hq := fun (b' : Option Addr) (cb' : Nat) (h : RdC H b' (((l ++ r).take l.length).flatMap rwc)) => sameQ H a b' l ((l ++ r).take l.length) ca cb' (hb := h) rfl rfl hl
  rw [htk, decide_eq_true rfl] at hq
  refine spec_of Tryz.func34 rfl Tryz.ntmps34 rfl ?_
  repeat' (first | (refine rG 0 [0, 1] ?_; ((try (refine wK ?_; intro _)))) | (refine rG 1 [4] ?_; ((try refine wO ?_) <;> (repeat' (refine g_split rfl (by decide) rfl (by decide) ?_ ?_ <;> intro hc <;> (try refine wO ?_))) <;> (try ((refine o_takeT (cells := rwc) (xs := l ++ r) (t := l.length) rwc_len (by decide) rfl rfl rfl hlr hc (fun b' hb' => ?_); rw [htk] at hb' ⊢))) <;> (try refine wO ?_) <;> (repeat' (refine g_split rfl (by decide) rfl (by decide) ?_ ?_ <;> intro hc <;> (try refine wO ?_))) <;> (try (refine o_callH (hq _ _ (hb' _)) (by first | exact True.intro | (show _ < _; decide)) rfl rfl (fun _ _ => ?_))) <;> (try (refine wK ?_; intro _)))) | refine wC ?_ | (refine ex_split rfl ?_ ?_ <;> intro hc))
  exact fin (.inr rfl) () (resl1 rfl (rv_tmp rfl)) trivial (Ent.refl _)
end Go.Proofs.YtcelailgedndnaaGreatS
namespace Go.Proofs.YtcelailgedndnaaGreatS
open Go.RowKit
set_option linter.unusedVariables false
set_option linter.unusedSimpArgs false
/-! A tenant that is fed: what it took and what waits is what it was told. -/
def pF : Pp := ([], 4, 4, 2, -1, 0)
def shown (r : Bd.Rl) : Bool := (r.1 == 0) && !r.2.2.2
def ival (i : In) : Int := i.2.2.2.1
structure FdOk (f : BitVec 64) (c : Cd) (L : List Bd.Rl) : Prop where
  pp : c.run.pp = pF
  m0 : c.run.mark = 0
  ins : ∀ i ∈ c.taken ++ c.q, i.1 = false ∧ i.2.2.1 = 0 ∧ i.2.2.2.2 = f
  vals : (c.taken ++ c.q).map ival = (L.filter shown).map (fun r => r.2.2.1)
def FedS (K : Sk) (s : Cs) : Prop := s.sinks[0]? = some K ∧ ∃ c L, cell s 7 = some c ∧ s.told[7]? = some L ∧ FdOk K.1 c L
theorem rnTake_mark (r : Ru) (l : List In) (h : ∀ i ∈ l, i.1 = false) : (rnTake r l).1.mark = r.mark := by
  revert h
  refine snoc_ind (P := fun l => (∀ i ∈ l, i.1 = false) → (rnTake r l).1.mark = r.mark) (fun _ => rfl) (fun l i ih h => ?_) l
  rw [rnTake_snoc]
  have hi := h i (List.mem_append.2 (.inr (List.mem_singleton.2 rfl)))
  show (rnIn (rnTake r l).1 i).1.mark = _
  unfold rnIn
  rw [hi]
  exact ih fun j hj => h j (List.mem_append.2 (.inl hj))
theorem fd_serve {f : BitVec 64} {c : Cd} {L : List Bd.Rl} (h : FdOk f c L) (n : Int) : FdOk f (serve n c).1 L := by
  have e : (serve n c).1.taken ++ (serve n c).1.q = c.taken ++ c.q := by
    show (c.taken ++ c.q.take (pk n c.q.length)) ++ c.q.drop (pk n c.q.length) = _
    rw [List.append_assoc, List.take_append_drop]
  refine ⟨by rw [serve_pp]; exact h.pp, ?_, by rw [e]; exact h.ins, by rw [e]; exact h.vals⟩
  show (rnTake c.run (c.q.take (pk n c.q.length))).1.mark = 0
  rw [rnTake_mark _ _ fun i hi => (h.ins i (List.mem_append.2 (.inr (List.mem_of_mem_take hi)))).1]
  exact h.m0
theorem fed_serve1 {K : Sk} {s : Cs} (h : FedS K s) (t : Nat) (n : Int) : FedS K (serve1 t n s) := by
  obtain ⟨h0, c, L, hc, hL, hf⟩ := h
  obtain ⟨e1, _, _, _, e5, _⟩ := serve1_same t n s
  refine ⟨by rw [e1]; exact h0, ?_⟩
  rw [e5]
  cases ht : cell s t with
  | none => rw [serve1_none ht]; exact ⟨c, L, hc, hL, hf⟩
  | some d =>
    rw [serve1_some ht, cell_set (cell_lt ht)]
    by_cases hu : 7 = t
    · subst hu
      rw [if_pos rfl]
      rw [hc] at ht
      obtain rfl := Option.some.inj ht
      exact ⟨_, L, rfl, hL, fd_serve hf n⟩
    · rw [if_neg hu]; exact ⟨c, L, hc, hL, hf⟩
theorem fold_inv {α β : Type} {P : α → Prop} (f : α → β → α) (hf : ∀ s x, P s → P (f s x)) : ∀ (l : List β) (s : α), P s → P (l.foldl f s)
  | [], s, h => h
  | x :: l, s, h => fold_inv f hf l _ (hf s x h)
theorem fed_tick1 {K : Sk} {s : Cs} (hK : hs K.2.1 7 = true) (hf0 : K.1 ≠ 0) (h : FedS K s) (i : Nat) : FedS K (tick1 i s) := by
  obtain ⟨h0, c, L, hc, hL, hf⟩ := h
  unfold tick1
  cases hk : s.sinks[i]? with
  | none => exact ⟨h0, c, L, hc, hL, hf⟩
  | some k =>
    cases hp : s.pots[i]? with
    | none => exact ⟨h0, c, L, hc, hL, hf⟩
    | some p =>
      simp only
      split
      · have hpin : (pinAll k.2.1 (rel i k p.2 s.ticks) s.told)[7]? = some (Bd.pins k.2.1 [rel i k p.2 s.ticks] 7 L) := by
          unfold pinAll
          rw [List.getElem?_mapIdx, hL]; rfl
        cases hw : few p.2 k with
        | true =>
          rw [if_pos rfl]
          refine ⟨h0, c, _, hc, hpin, hf.pp, hf.m0, hf.ins, ?_⟩
          have hsh : shown (rel i k p.2 s.ticks) = false := by unfold shown rel; simp [hw]
          rw [hf.vals]
          unfold Bd.pins
          split
          · rw [List.filter_append, List.filter_cons_of_neg (by rw [hsh]; simp)]; simp
          · rfl
        | false =>
          rw [if_neg (by simp)]
          refine ⟨h0, feed1 k (rel i k p.2 s.ticks) 7 c, _, ?_, hpin, ?_⟩
          · rw [cell_feed]
            show (cell s 7).map _ = _
            rw [hc]; rfl
          · by_cases hi : i = 0
            · subst hi
              rw [h0] at hk
              obtain rfl := Option.some.inj hk
              have hK' : hs K.2.1 ((7 : Nat) : Int) = true := hK
              have hev : evR (c.run.mark, (0 : Int), p.2.2.1, K.1) = true := by
                rw [hf.m0]
                unfold evR tmax
                simp
                exact hf0
              have hfe : feed1 K (rel 0 K p.2 s.ticks) 7 c = { c with q := c.q ++ [(false, (c.run.mark, (0 : Int), p.2.2.1, K.1))] } := by
                unfold feed1 rel feedC
                simp only [hw, hK', hf.pp]
                show (if (true && ((0 : Int) == 0)) = true then (if evR (c.run.mark, (0 : Int), p.2.2.1, K.1) = true then _ else _) else _) = _
                rw [if_pos (show (true && ((0 : Int) == 0)) = true from rfl), if_pos hev]
                rfl
              have hsh : shown (rel 0 K p.2 s.ticks) = true := by unfold shown rel; simp [hw]
              have hrv : (rel 0 K p.2 s.ticks).2.2.1 = p.2.2.1 := by unfold rel; simp [hw]
              rw [hfe]
              refine ⟨hf.pp, hf.m0, ?_, ?_⟩
              · intro j hj
                have hj : j ∈ c.taken ++ (c.q ++ [(false, (c.run.mark, (0 : Int), p.2.2.1, K.1))]) := hj
                rw [← List.append_assoc] at hj
                rcases List.mem_append.1 hj with hj | hj
                · exact hf.ins j hj
                · rw [List.mem_singleton.1 hj]; exact ⟨rfl, rfl, rfl⟩
              · show (c.taken ++ (c.q ++ [(false, (c.run.mark, (0 : Int), p.2.2.1, K.1))])).map ival = _
                rw [← List.append_assoc, List.map_append, hf.vals]
                unfold Bd.pins
                rw [if_pos hK', List.filter_append, List.map_append, List.filter_cons_of_pos hsh]
                show _ ++ [p.2.2.1] = _ ++ [(rel 0 K p.2 s.ticks).2.2.1]
                rw [hrv]
            · have hne : ((i : Int) == 0) = false := by simpa using hi
              have hfe : feed1 k (rel i k p.2 s.ticks) 7 c = c := by
                unfold feed1 rel
                simp only [hf.pp]
                rw [if_neg]
                show ¬ ((hs k.2.1 ((7 : Nat) : Int) && ((0 : Int) == (i : Int))) = true)
                have : ((0 : Int) == (i : Int)) = false := by simp; omega
                rw [this]; simp
              have hsh : shown (rel i k p.2 s.ticks) = false := by unfold shown rel; simp only; rw [hne]; rfl
              rw [hfe]
              refine ⟨hf.pp, hf.m0, hf.ins, ?_⟩
              rw [hf.vals]
              unfold Bd.pins
              split
              · rw [List.filter_append, List.filter_cons_of_neg (by rw [hsh]; simp)]; simp
              · rfl
      · exact ⟨h0, c, L, hc, hL, hf⟩
theorem fed_tick {K : Sk} {s : Cs} (hK : hs K.2.1 7 = true) (hf0 : K.1 ≠ 0) (h : FedS K s) : FedS K (tickS s) := by
  have h1 : FedS K (serveAll s) := fold_inv (P := FedS K) (fun x t => serve1 t (turnN s.bu (waits s t)) x) (fun x t hx => fed_serve1 hx t _) (order s.ticks) s h
  have h2 : FedS K { serveAll s with ticks := IntKind.i64.wrap (s.ticks + 1) } := h1
  exact fold_inv (P := FedS K) (fun x i => tick1 i x) (fun x i hx => fed_tick1 hK hf0 hx i) _ _ h2
theorem fed_set {K : Sk} {s : Cs} {n : Nat} (ok : CsOk s n) (h : FedS K s) (t : Nat) (ht : t ≤ 6) (x : Option Cd) : FedS K { s with cells := s.cells.set t x } := by
  obtain ⟨h0, c, L, hc, hL, hf⟩ := h
  refine ⟨h0, c, L, ?_, hL, hf⟩
  have := cell_set (s := s) (t := t) (x := x) (P := s.pots) (by rw [ok.c8]; omega) 7
  rw [if_neg (by omega)] at this
  exact this.trans hc
theorem fed_do {K : Sk} {s : Cs} {n : Nat} (ok : CsOk s n) (hK : hs K.2.1 7 = true) (hf0 : K.1 ≠ 0) (h : FedS K s) (a : Ac) (ha : 0 ≤ a.2.1 ∧ a.2.1 ≤ 3) : FedS K (doS a s).1 := by
  obtain ⟨kd, tn, fr, nn, p, i⟩ := a
  have ha : 0 ≤ tn ∧ tn ≤ 3 := ha
  unfold doS
  split
  · show FedS K (register tn p s).1
    unfold register
    split
    · exact h
    · split
      · exact h
      · split
        · exact h
        · exact fed_set ok h _ (by omega) _
  · split
    · exact fed_tick hK hf0 h
    · split
      · exact h
      · split
        · exact h
        · cases hc : cellI s tn with
          | none => exact h
          | some c =>
            simp only [hc]
            split
            · exact fed_set ok h tn.toNat (by omega) _
            · exact h
theorem fed_doL {K : Sk} {s : Cs} {n : Nat} (hK : hs K.2.1 7 = true) (hf0 : K.1 ≠ 0) (ok : CsOk s n) (hq : s.qu ≤ 4000) (h : FedS K s) (ht : TelS s) (l : List Ac) : (∀ a ∈ l, 0 ≤ a.2.1 ∧ a.2.1 ≤ 3) → n + 5 * l.length ≤ 9000 → FedS K (doL l s).1 ∧ TelS (doL l s).1 := by
  refine snoc_ind (P := fun l => (∀ a ∈ l, 0 ≤ a.2.1 ∧ a.2.1 ≤ 3) → n + 5 * l.length ≤ 9000 → FedS K (doL l s).1 ∧ TelS (doL l s).1) (fun _ _ => ⟨h, ht⟩) (fun l a ih ha hl => ?_) l
  rw [List.length_append, List.length_singleton] at hl
  obtain ⟨i1, i2⟩ := ih (fun b hb => ha b (List.mem_append.2 (.inl hb))) (by omega)
  have ok1 := (doL_ok ok hq l (by omega)).1
  rw [doL_snoc]
  exact ⟨fed_do ok1 hK hf0 i1 a (ha a (List.mem_append.2 (.inr (List.mem_singleton.2 rfl)))), tel_do ok1 i2 a⟩
theorem cell_new7 (bu ro qu : Int) (l : List Sk) : cell (newCs bu ro qu l) (7 : Int).toNat = none := rfl
theorem mayF7 (K : Sk) (r : List Sk) (hK : hs K.2.1 7 = true) : mayP 7 pF (K :: r) = true := by
  unfold mayP pF R.mayF
  show (((decide ((7 : Int) ≥ 0) && decide ((7 : Int) < 8)) && R.pipr [] 4 4 2 (-1) 0) && R.inF (·.1) 7 (-1) (K :: r) && R.inF (·.2.1) 7 0 (K :: r)) = true
  have h1 : R.inF (·.1) 7 (-1) (K :: r) = true := rfl
  have h2 : R.inF (·.2.1) 7 0 (K :: r) = hs K.2.1 7 := rfl
  have h3 : R.pipr [] 4 4 2 (-1) 0 = true := by decide
  rw [h1, h2, h3, hK]
  rfl
theorem fed_new (bu ro qu : Int) (K : Sk) (r : List Sk) (hK : hs K.2.1 7 = true) : (doS (1, 7, 0, 0, pF, z0) (newCs bu ro qu (K :: r))).2 = (0, [], []) ∧ FedS K (doS (1, 7, 0, 0, pF, z0) (newCs bu ro qu (K :: r))).1 := by
  have hr : register 7 pF (newCs bu ro qu (K :: r)) = ({ newCs bu ro qu (K :: r) with cells := (newCs bu ro qu (K :: r)).cells.set 7 (some (newCd 7 qu pF)) }, 0) := by
    unfold register
    rw [if_neg (by omega), if_neg (by rw [cell_new7]; simp), if_neg (by rw [show (newCs bu ro qu (K :: r)).sinks = K :: r from rfl, mayF7 K r hK]; simp)]
    rfl
  have hd : doS (1, 7, 0, 0, pF, z0) (newCs bu ro qu (K :: r)) = ((register 7 pF (newCs bu ro qu (K :: r))).1, (register 7 pF (newCs bu ro qu (K :: r))).2, [], []) := by
    unfold doS
    rw [if_pos rfl]
  rw [hd, hr]
  exact ⟨rfl, rfl, newCd 7 qu pF, [], rfl, rfl, rfl, rfl, fun i hi => by simp [newCd] at hi, rfl⟩
end Go.Proofs.YtcelailgedndnaaGreatS
namespace Go.Proofs.YtcelailgedndnaaGreatS
open Go.RowKit
set_option linter.unusedVariables false
set_option linter.unusedSimpArgs false
def k7 (k : Sk) : Sk := (k.1, k.2.1 ||| 128#64, k.2.2)
theorem hs_or7 (x : BitVec 64) : hs (x ||| 128#64) 7 = true := by
  unfold hs
  have h : (x ||| 128#64) &&& bt 7 ≠ 0 := fun e => by
    have := congrArg (fun z => BitVec.getLsbD z 7) e
    have h2 : ((x ||| 128#64) &&& bt 7).getLsbD 7 = true := by
      rw [gm, gj, show bt 7 = bt ((7 : Nat) : Int) from rfl, bt_get 7 7 (by decide) (by decide)]
      have : (128#64).getLsbD 7 = true := by decide
      rw [this]; simp
    rw [h2] at this
    simp at this
  rw [decide_eq_false h]; rfl
theorem b128 : ∀ i : Fin 64, (128#64).getLsbD i.val = true → (255#64).getLsbD i.val = true := by decide
theorem rs1_k7 {k : Sk} (h : R.rs1 k = true) : R.rs1 (k7 k) = true := by
  obtain ⟨f, to, le, ag, ti⟩ := k
  unfold R.rs1 at h ⊢
  simp only [Bool.and_eq_true] at h ⊢
  obtain ⟨⟨h1, h2⟩, h3⟩ := h
  refine ⟨⟨h1, ?_⟩, h3⟩
  show bl (f ||| (to ||| 128#64)) 255#64 = true
  rw [bl_iff] at h2 ⊢
  intro i hi hg
  have h2 := h2 i hi
  rw [gj, gj] at hg
  rw [gj] at h2
  rcases Bool.or_eq_true _ _ ▸ hg with hg | hg
  · exact h2 (by rw [hg]; rfl)
  · rcases Bool.or_eq_true _ _ ▸ hg with hg | hg
    · exact h2 (by rw [hg]; simp)
    · exact b128 ⟨i, hi⟩ hg
theorem rs1_from {k : Sk} (h : R.rs1 k = true) : k.1 ≠ 0 := by
  unfold R.rs1 at h
  simp only [Bool.and_eq_true] at h
  have := h.1.1
  simpa using this
theorem right_k7 {bu ro qu : Int} {k : Sk} {r : List Sk} (h : rightS bu ro qu (k :: r) = true) : rightS bu ro qu (k7 k :: r) = true := by
  unfold rightS at h ⊢
  simp only [Bool.and_eq_true, List.all_cons, List.length_cons] at h ⊢
  exact ⟨h.1, ⟨rs1_k7 h.2.1.1, h.2.1.2⟩, h.2.2⟩
theorem right_dk {bu ro qu : Int} {l : List Sk} (h : rightS bu ro qu l = true) : rightS bu ro qu [dk] = true := by
  unfold rightS at h ⊢
  simp only [Bool.and_eq_true] at h ⊢
  exact ⟨h.1, by decide⟩
theorem put_sw {e : Env} {a b : Nat} {v w : Value} (h : a ≠ b) : put (put e a v) b w = put (put e b w) a v := by
  funext u
  unfold put
  cases h1 : Nat.beq u a <;> cases h2 : Nat.beq u b <;> simp
  exact absurd ((Nat.eq_of_beq_eq_true h1).symm.trans (Nat.eq_of_beq_eq_true h2)) h
theorem or128 (x : BitVec 64) : bits .or .u64 (U x) 128 = U (x ||| 128#64) := by rw [show (128 : Int) = U 128#64 from rfl, or_U]
set_option linter.unusedVariables false
set_option linter.unusedSimpArgs false
attribute [local irreducible] Ops Ex Spec T V QO OA Rn OS
set_option maxRecDepth 100000 in
set_option maxHeartbeats 16000000 in
theorem topFed (z : Su) (a1 : Option Addr) (l : List R.Kn) (c1 : Nat) (hz : z.2.2.2.2.1.length ≤ maxLen) :
    Spec Tryz.prog 4 [.agg (suc z).toArray, .slice a1 l.length c1] (suH z * (rs a1 (l.flatMap R.kac) * pmS l)) (X := Unit) (fun _ => .bool true) (fun _ => True) (fun _ => 1) := by
  obtain ⟨bu, ro, qu, sa, sl, sc0⟩ := z
  have hz : sl.length ≤ maxLen := hz
  show Spec Tryz.prog 4 [.agg (List.toArray [.int .i64 bu, .int .i64 ro, .int .i64 qu, .slice sa sl.length sc0]), .slice a1 l.length c1] (rs sa (sl.flatMap R.kc) * (rs a1 (l.flatMap R.kac) * pmS l)) (X := Unit) (fun _ => .bool true) (fun _ => True) (fun _ => 1)
  have hset := fun (H' : HP) (h : RdC H' sa (sl.flatMap R.kc)) => setupK H' sa sl sc0 bu ro qu (hr := h) hz
  have hacts := fun (X' H' : HP) (h1 : Take (pmS l) X' H') (h2 : RdC X' a1 (l.flatMap R.kac)) => actsK X' a1 c1 l (ha := h2) (rdc_pmS l)
  have hrt := kS_right bu ro qu sl
  have hk2 := kS_len sl
  have hq0 : wn qu 0 30 ≤ 4000 := by
    have b3 := wn_bd qu 0 30 (by omega)
    omega
  generalize wn bu 1 4 = bu' at *
  generalize wn ro 1 8 = ro' at *
  generalize wn qu 0 30 = qu' at *
  generalize kS sl = ks at *
  refine spec_of Tryz.func4 rfl Tryz.ntmps4 rfl ?_
  refine ex_seq ?_
  repeat' (first | (refine rG 0 [1, 2] ?_; ((try ((refine o_box (by decide) (v := .agg (List.toArray _)) rfl rfl (fun b5 => ?_)))) <;> (try (refine wK ?_; intro _)))) | refine ex_ret ?_ | refine ex_skip ?_ | refine ex_exit ?_ | refine ex_cond_t rfl ?_ | refine ex_cond_f rfl ?_ | refine ex_cond_t (congrArg Value.bool (by assumption)) ?_ | refine ex_cond_f (congrArg Value.bool (by assumption)) ?_ | (refine ex_split rfl ?_ ?_ <;> intro hc))
  refine ex_seq ?_
  repeat' (first | (refine rG 1 [1, 5] ?_; ((try refine wO ?_) <;> (try ((refine o_callH (hset _ inferInstance) (by first | exact True.intro | (show _ < _; decide)) rfl rfl (fun y _ => ?_); obtain ⟨sb, sd⟩ := y))) <;> (try ((refine o_alloc_a (by decide) (fun b11 => ?_)))) <;> (try (refine wK ?_; intro _)))) | refine ex_ret ?_ | refine ex_skip ?_ | refine ex_exit ?_ | refine ex_cond_t rfl ?_ | refine ex_cond_f rfl ?_ | refine ex_cond_t (congrArg Value.bool (by assumption)) ?_ | refine ex_cond_f (congrArg Value.bool (by assumption)) ?_ | (refine ex_split rfl ?_ ?_ <;> intro hc))
  refine ex_seq ?_
  refine R.ex_cut (fun e H' => ∃ G, ∃ k : Sk, ∃ r : List Sk, ∃ sb : Option Addr, ∃ sd : Nat, e = put (put G 1 (.slice a1 l.length c1)) 5 (.pointer (some ⟨b11, 0, none⟩)) ∧
    Ent H' (cl true b11 [.int .i64 bu', .int .i64 ro', .int .i64 qu', .slice sb (k :: r).length sd] 27 (0, 0) * (ow 74 5 sb (k :: r).length sd ((k :: r).flatMap sc) * (rs a1 (l.flatMap R.kac) * pmS l))) ∧
    rightS bu' ro' qu' (k :: r) = true ∧ (k :: r).length ≤ 2) ?_ ?_
  · cases ks with
    | nil =>
      have d0 : ((([] : List Sk).length : Int) == 0) = true := rfl
      repeat' (first | (refine rG 2 [1, 5, 20] ?_; ((try (refine wK ?_; intro _)))) | (refine rG 3 [1, 5] ?_; ((try ((refine o_callH (duoK _) (by first | exact True.intro | (show _ < _; decide)) rfl rfl (fun y _ => ?_)))) <;> (try (first | refine o_fldS (v := .slice _ _ _) (by decide) rfl Tryz.underlying27 rfl (fun _ => by kernel_rfl) rfl ?_ | refine o_fldS (by decide) rfl Tryz.underlying27 rfl (fun _ => by kernel_rfl) (by assumption) ?_)) <;> (try (refine wK ?_; intro _)))) | refine wC ?_ | (refine ex_split rfl ?_ ?_ <;> intro hc))
      refine ⟨rfl, _, dk, [], some ⟨y, 0, none⟩, 1, rfl, ?_, right_dk hrt, by decide⟩
      refine Ent.trans (ent_clL (b := b11) (l' := [.int .i64 bu', .int .i64 ro', .int .i64 qu', .slice (some ⟨y, 0, none⟩) [dk].length 1]) rfl) ?_
      refine Ent.trans (ent_owL 74 5 (some ⟨y, 0, none⟩) 1 1 (l' := [dk].flatMap sc) rfl) ?_
      exact ent_take
    | cons k r =>
      have d0 : (((k :: r).length : Int) == 0) = false := by
        rw [List.length_cons]; simp; omega
      repeat' (first | (refine rG 2 [1, 5, 20] ?_; ((try (refine wK ?_; intro _)))) | (refine rG 3 [1, 5] ?_; ((try (skip)) <;> (try (first | refine o_fldS (v := .slice _ _ _) (by decide) rfl Tryz.underlying27 rfl (fun _ => by kernel_rfl) rfl ?_ | refine o_fldS (by decide) rfl Tryz.underlying27 rfl (fun _ => by kernel_rfl) (by assumption) ?_)) <;> (try (refine wK ?_; intro _)))) | refine wC ?_ | (refine ex_split rfl ?_ ?_ <;> intro hc))
      refine ⟨rfl, _, k, r, sb, sd, by rw [put_sw (a := 5) (b := 20) (by decide), put_sw (a := 1) (b := 20) (by decide)], ?_, hrt, hk2⟩
      refine Ent.trans (ent_clL (b := b11) (l' := [.int .i64 bu', .int .i64 ro', .int .i64 qu', .slice sb (k :: r).length sd]) rfl) ?_
      exact ent_take
  · rintro e H' ⟨G, k, r, sb, sd, rfl, hE, hrt, hk2⟩
    refine Ex.ent ?_ hE
    have hr7 := right_k7 hrt
    have hK : hs (k7 k).2.1 7 = true := hs_or7 k.2.1
    have hf0 : (k7 k).1 ≠ 0 := by
      unfold rightS at hrt
      simp only [Bool.and_eq_true, List.all_cons] at hrt
      show k.1 ≠ 0
      exact rs1_from hrt.2.1.1
    have hl2 : (k7 k :: r).length ≤ 4 := Nat.le_trans hk2 (by decide)
    have ok0 := newCs_ok bu' ro' qu' (k7 k :: r) hl2
    obtain ⟨hreg, hfed⟩ := fed_new bu' ro' qu' (k7 k) r hK
    have tel0 : TelS (newCs bu' ro' qu' (k7 k :: r)) := fun t c h => by rw [show cell (newCs bu' ro' qu' (k7 k :: r)) t = none from cell_new bu' ro' qu' _ t] at h; cases h
    have hq0 : (newCs bu' ro' qu' (k7 k :: r)).qu ≤ 4000 := hq0
    have hnew := fun (ad : Addr) (H' : HP) (h : RdC H' (some ad) ((k7 k :: r).flatMap sc)) => coNew H' (some ad) (k7 k :: r) sd bu' ro' qu' (hr := h) hl2 hr7
    generalize newCs bu' ro' qu' (k7 k :: r) = s0 at *
    have ok1 := doS_ok ok0 (by decide) hq0 (1, 7, 0, 0, pF, z0)
    have hq1 : (doS (1, 7, 0, 0, pF, z0) s0).1.qu ≤ 4000 := by rw [(doS_same ok0 _).2.2.1]; exact hq0
    have tel1 := tel_do ok0 tel0 (1, 7, 0, 0, pF, z0)
    have hdo1 := fun (b : Nat) (aa : Option Addr) (X' H' : HP) (h1 : Take (CO b s0) X' H') (h2 : RdC H' aa (acc none 0 (1, 7, 0, 0, pF, z0))) => coDo1 b s0 aa none 0 (1, 7, 0, 0, pF, z0) 1 (t := h1) (hr := h2) (hro := rdc_nil _) (Nat.zero_le _) ok0 (by decide)
    generalize doS (1, 7, 0, 0, pF, z0) s0 = D at *
    obtain ⟨s1, D2⟩ := D
    have hreg : D2 = (0, [], []) := hreg
    subst hreg
    have hfed : FedS (k7 k) s1 := hfed
    have ok1 : CsOk s1 5 := ok1
    have hq1 : s1.qu ≤ 4000 := hq1
    have tel1 : TelS s1 := tel1
    refine Ex.rd_some (a := sb) (l := (k :: r).flatMap sc) (by rw [flat_len sc_len, List.length_cons]; omega) (fun sb ha => ?_)
    subst ha
    have hv1 : ((k :: r).flatMap sc)[(0 : Int).toNat * 5 + 1]? = some (.int .u64 (U k.2.1)) := rfl
    have hlt : (0 : Int).toNat * 5 + 1 < ((k :: r).flatMap sc).length := by rw [flat_len sc_len, List.length_cons]; show 0 * 5 + 1 < _; omega
    have hl0 : (0 : Int) < ((k :: r).length : Int) := by rw [List.length_cons]; omega
    refine ex_seq ?_
    refine R.ex_cut (fun e H' => ∃ G, e = put (put G 1 (.slice a1 l.length c1)) 5 (.pointer (some ⟨b11, 0, none⟩)) ∧
      Ent H' (cl true b11 [.int .i64 bu', .int .i64 ro', .int .i64 qu', .slice (some sb) (k7 k :: r).length sd] 27 (0, 0) * (ow 74 5 (some sb) (k7 k :: r).length sd ((k7 k :: r).flatMap sc) * (rs a1 (l.flatMap R.kac) * pmS l)))) ?_ ?_
    · repeat' (first | (refine rA 4 [1, 5] 11 ?_; (refine os_butR 74 5 (some sb) (k :: r).length sd ?_); ((refine lQ 0 ?_; ((refine lQ 1 ?_; ((refine lQ 2 ?_; ((refine lQ 3 ?_; ((refine lQ 4 ?_; ((refine lQ 5 ?_; ((refine oN 6 ?_ <;> (refine wO ?_) <;> (refine os_nil ?_) <;> ((refine lC (v := ?_) 7 ?_ ?_; rotate_left; (focus (((refine o_int (by decide) rfl rfl rfl ?_; rw [or128])) <;> exact lL)); ((refine lQ 8 ?_; ((refine lQ 9 ?_; ((refine oN 10 ?_ <;> (refine wO ?_) <;> (refine os_nil ?_) <;> ((refine dK ?_; intro _))))))))))))))))))))))))) | refine wC ?_ | (refine ex_split rfl ?_ ?_ <;> intro hc))
      all_goals
        refine ⟨rfl, _, rfl, ?_⟩
        refine Ent.trans (ent_owL 74 5 (some sb) (k :: r).length sd (l' := (k7 k :: r).flatMap sc) rfl) ?_
        show Ent (ow 74 5 (some sb) (k7 k :: r).length sd ((k7 k :: r).flatMap sc) * _) _
        exact ent_take
    · rintro e H' ⟨G, rfl, hE⟩
      refine Ex.ent ?_ hE
      repeat' (first | (refine ex_regk (id := 5) (ts := [1, 5, 6]) ?_; ((try (refine o_build (cells := ppc none 0 pF) (by decide) rfl ?_)) <;> (try ((refine o_alloc_a (by decide) (fun b6 => ?_)))) <;> (try (first | refine o_store_a rfl rfl rfl rfl rfl ?_ | refine o_store_oa rfl rfl rfl (Nat.succ_pos _) rfl (by assumption) ?_)) <;> (try (refine ops_nilk ?_; intro _)) <;> (try ((first | refine keep_cons (v := .slice _ _ _) rfl ?_ | refine keep_cons (v := _) rfl ?_) <;> (first | refine keep_cons (v := .pointer _) rfl ?_ | refine keep_cons (v := _) rfl ?_) <;> (first | refine keep_cons (v := .pointer _) rfl ?_ | refine keep_cons (v := _) rfl ?_))) <;> (try refine keep_nil ?_))) | (refine rG 6 [1, 5, 6, 7] ?_; ((try refine wO ?_) <;> (try ((refine o_callH (hnew _ _ inferInstance) (by first | exact True.intro | (show _ < _; decide)) rfl rfl (fun b _ => ?_)))) <;> (try (refine wK ?_; intro _)))) | (refine rG 7 [1, 5, 6, 7, 38] ?_; ((try (refine wK ?_; intro _)))) | refine wC ?_ | (refine ex_split rfl ?_ ?_ <;> intro hc))
      have hdo2 := fun (ra : Option Addr) (rc : Nat) (A : List At) (hA : A.length ≤ 40) (ho : ∀ r ∈ A, actok r) (X' H' R' : HP) (h1 : Take (CO b s1) X' H') (h2 : RdC H' ra (A.flatMap ae)) (h3 : Take (orm A) H' R') => coDoN b s1 ra A rc (t := h1) (hr := h2) (rdc_orm A) (fun r hr => Nat.le_trans (ho r hr).2.2 (by decide)) ok1 hq1 (by omega)
      refine Ex.ent ?_ (ent_clL (b := b6) (l' := ppc none 0 pF) rfl)
      repeat' (first | (refine ex_regk (id := 9) (ts := [1, 5, 6, 7]) ?_; ((try (first | refine o_mv (v := .pointer _) (by decide) rfl ?_ | refine o_mv (by decide) rfl ?_)) <;> (try (refine o_load_a (vs := ppc none 0 pF) (by decide) rfl rfl ?_)) <;> (try (refine o_build (cells := acc none 0 (1, 7, 0, 0, pF, z0)) (by decide) rfl ?_)) <;> (try ((refine o_buildSlice (by decide) rfl rfl rfl (fun _ => ?_)))) <;> (try ((refine o_callH (hdo1 b _ _ _ inferInstance inferInstance) (by first | exact True.intro | (show _ < _; decide)) rfl rfl (fun y hy => ?_)))) <;> (try (refine ops_nilk ?_; intro _)) <;> (try ((first | refine keep_cons (v := .slice _ _ _) rfl ?_ | refine keep_cons (v := _) rfl ?_) <;> (first | refine keep_cons (v := .pointer _) rfl ?_ | refine keep_cons (v := _) rfl ?_) <;> (first | refine keep_cons (v := .pointer _) rfl ?_ | refine keep_cons (v := _) rfl ?_) <;> (first | refine keep_cons (v := .pointer _) rfl ?_ | refine keep_cons (v := _) rfl ?_))) <;> (try refine keep_nil ?_))) | refine wC ?_ | (refine ex_split rfl ?_ ?_ <;> intro hc))
      repeat' (first | (refine rG 10 [5, 6, 7] ?_; ((try refine wO ?_) <;> (try ((refine o_callH (hacts _ _ inferInstance inferInstance) (by first | exact True.intro | (show _ < _; decide)) rfl rfl (fun y hy => ?_); obtain ⟨ra, rc, A⟩ := y; obtain ⟨hA, hrc, ho⟩ := hy))) <;> (try ((refine o_callH (hdo2 ra rc A hA ho _ _ _ inferInstance inferInstance inferInstance) (by first | exact True.intro | (show _ < _; decide)) rfl rfl (fun y hy => ?_); obtain ⟨qa, qc, B⟩ := y))) <;> (try (refine wK ?_; intro _)))) | refine wC ?_ | (refine ex_split rfl ?_ ?_ <;> intro hc))
      have hA : A.length ≤ 40 := hA
      have ok2 : CsOk (doL (A.map (·.2.2)) s1).1 205 := ((doL_ok ok1 hq1 (A.map (·.2.2)) (by rw [List.length_map]; omega)).1).mono (by rw [List.length_map]; omega)
      obtain ⟨fed2, tel2⟩ := fed_doL hK hf0 ok1 hq1 hfed tel1 (A.map (·.2.2)) (fun a ha => by
        obtain ⟨x, hx, rfl⟩ := List.mem_map.1 ha
        exact (ho x hx).2.1) (by rw [List.length_map]; omega)
      generalize (doL (A.map (·.2.2)) s1).1 = s2 at *
      obtain ⟨hs0, c, L, hc, hL, hf⟩ := fed2
      have hcI : cellI s2 7 = some c := by rw [cellI_nat (by decide)]; exact hc
      have hto : toldOf s2 7 = L := by unfold toldOf; rw [show (7 : Int).toNat = 7 from rfl, hL]; rfl
      have hro : rowsOf s2 7 = c.rows := by unfold rowsOf; rw [hcI]
      have hrl := ok2.rle 7
      have hLl := ok2.told L (List.mem_of_getElem? hL)
      have k1 := (ok2.cell _ _ hc).1.ins
      have htl := fun (X' H' : HP) (h : Take (CO b s2) X' H') => topTold b s2 7 (t := h) ok2 (by decide) (by decide) (by rw [hto]; omega)
      have hcs := fun (X' H' : HP) (h : Take (CO b s2) X' H') => coCellS b s2 7 (t := h) ok2 (by decide) hcI
      have hrw := fun (X' H' : HP) (h : Take (CO b s2) X' H') => topRows b s2 7 (t := h) ok2 (by decide) (by omega)
      have htc : Tel c := tel2 _ _ hc
      rw [hto] at htl
      rw [hro] at hrw hrl
      repeat' (first | (refine rG 11 [5, 6, 7, 8] ?_; ((try refine wO ?_) <;> (try ((refine o_callH (hcs _ _ inferInstance) (by first | exact True.intro | (show _ < _; decide)) rfl rfl (fun yb _ => ?_)))) <;> (try (refine wK ?_; intro _)))) | (refine rG 12 [5, 6, 7, 8, 51] ?_; ((try (refine wK ?_; intro _)))) | (refine rG 14 [5, 6, 7, 8, 9, 10] ?_; ((try (refine wK ?_; intro _)))) | refine wC ?_ | (refine ex_split rfl ?_ ?_ <;> intro hc))
      repeat' (first | (refine rG 15 [5, 6, 7, 8, 9, 10, 53, 54, 55] ?_; ((try refine wO ?_) <;> (try ((refine o_callH (htl _ _ inferInstance) (by first | exact True.intro | (show _ < _; decide)) rfl rfl (fun yt ht => ?_); obtain ⟨ya, yc⟩ := yt))) <;> (try (refine wK ?_; intro _)))) | refine ex_seq ?_ | refine ex_ret ?_ | refine ex_skip ?_ | refine ex_exit ?_ | refine ex_cond_t rfl ?_ | refine ex_cond_f rfl ?_ | refine ex_cond_t (congrArg Value.bool (by assumption)) ?_ | refine ex_cond_f (congrArg Value.bool (by assumption)) ?_ | (refine ex_split rfl ?_ ?_ <;> intro hc))
      refine Ex.ent (H' := ow 79 4 ya L.length yc (L.flatMap Bd.lc) * (CE yb c * (CO b s2 * (cl true b6 (ppc none 0 pF) 33 (0, 0) * (cl true b11 [.int .i64 bu', .int .i64 ro', .int .i64 qu', .slice (some sb) (k7 k :: r).length sd] 27 (0, 0) * ow 74 5 (some sb) (k7 k :: r).length sd ((k7 k :: r).flatMap sc)))))) ?_ ent_take
      generalize hX : CE yb c * (CO b s2 * (cl true b6 (ppc none 0 pF) 33 (0, 0) * (cl true b11 [.int .i64 bu', .int .i64 ro', .int .i64 qu', .slice (some sb) (k7 k :: r).length sd] 27 (0, 0) * ow 74 5 (some sb) (k7 k :: r).length sd ((k7 k :: r).flatMap sc)))) = X
      refine Ex.ent ?_ (Ent.ow_none 3 1 _)
      refine R.ex_cut (fun e H' => ∃ G, ∃ i : Nat, ∃ wa, ∃ wc : Nat, ∃ W : List Int, ∃ v : Bool, e = put (put (put (put (put (put (put (put (put (put G 5 (.pointer (some ⟨b11, 0, none⟩))) 6 (.pointer (some ⟨b6, 0, none⟩))) 7 (.pointer (some ⟨b, 0, none⟩))) 8 (.pointer (some ⟨yb, 0, none⟩))) 9 (.slice wa W.length wc)) 10 (.slice none 0 0)) 53 (.slice ya L.length yc)) 54 (.int .i64 (L.length : Int))) 55 (.int .i64 (i : Int))) 56 (.bool v) ∧ W = (L.filter shown).map (fun r => r.2.2.1) ∧ W.length ≤ wc ∧
        Ent H' (ow 3 1 wa W.length wc (W.flatMap (cw .i64)) * X)) ?_ ?_
      · refine wC ?_
        refine ex_loopE (fun mm e H' => ∃ g, ∃ i : Nat, ∃ wa, ∃ wc : Nat, ∃ W : List Int, e = put (put (put (put (put (put (put (put (put g 5 (.pointer (some ⟨b11, 0, none⟩))) 6 (.pointer (some ⟨b6, 0, none⟩))) 7 (.pointer (some ⟨b, 0, none⟩))) 8 (.pointer (some ⟨yb, 0, none⟩))) 9 (.slice wa W.length wc)) 10 (.slice none 0 0)) 53 (.slice ya L.length yc)) 54 (.int .i64 (L.length : Int))) 55 (.int .i64 (i : Int)) ∧
          H' = ow 3 1 wa W.length wc (W.flatMap (cw .i64)) * (ow 79 4 ya L.length yc (L.flatMap Bd.lc) * X) ∧ W = ((L.take i).filter shown).map (fun r => r.2.2.1) ∧ W.length ≤ wc ∧ i ≤ L.length ∧ mm = L.length - i) (m := L.length) ⟨_, 0, none, 0, [], rfl, rfl, by simp, by simp, by omega, by omega⟩ ?_ ?_
        · exact Ent.refl _
        · rintro mm e H' ⟨g, i, wa, wc, W, rfl, rfl, hW, hwc, hi, rfl⟩
          have ei : IntKind.i64.wrap ((i : Int) + 1) = ((i + 1 : Nat) : Int) := by rw [IntKind.wrap_i64]; omega
          have hWl : W.length ≤ 205 := by
            rw [hW, List.length_map]
            have := List.length_filter_le shown (L.take i)
            rw [List.length_take] at this
            omega
          by_cases hlt : i < L.length
          · have hd : decide ((i : Int) < (L.length : Int)) = true := decide_eq_true (by omega)
            have h0 : 0 ≤ (i : Int) := by omega
            have h1 : (i : Int) < (L.length : Int) := by omega
            refine Ex.rd_some (a := ya) (l := L.flatMap Bd.lc) (by rw [flat_len Bd.lc_len]; omega) (fun ad ha2 => ?_)
            subst ha2
            have hv : sub (L.flatMap Bd.lc) ((i : Int).toNat * 4) 4 = some (Bd.lc L[i]) := by rw [Int.toNat_natCast]; exact sub_flat Bd.lc_len L i hlt
            have htk : ((L.take (i + 1)).filter shown).map (fun r => r.2.2.1) = W ++ (([L[i]].filter shown).map (fun r => r.2.2.1)) := by
              rw [List.take_succ_eq_append_getElem hlt, List.filter_append, List.map_append, ← hW]
            generalize L[i] = x at *
            obtain ⟨x1, x2, x3, x4⟩ := x
            repeat' (first | (refine rG 16 [5, 6, 7, 8, 9, 10, 53, 54, 55, 56] ?_; ((try (refine wK ?_; intro _)))) | (refine ex_regk (id := 17) (ts := [5, 6, 7, 8, 9, 10, 12, 53, 54, 55]) ?_; ((try (refine o_index (by decide) rfl rfl (by first | decide | assumption | omega) (by first | decide | assumption | omega) ?_)) <;> (try (refine o_load_ra (vs := Bd.lc (x1, x2, x3, x4)) (by decide) rfl hv ?_)) <;> (try ((refine o_alloc_a (by decide) (fun b12 => ?_)))) <;> (try (first | refine o_store_a rfl rfl rfl rfl rfl ?_ | refine o_store_oa rfl rfl rfl (Nat.succ_pos _) rfl (by assumption) ?_)) <;> (try (refine ops_nilk ?_; intro _)) <;> (try ((first | refine keep_cons (v := .pointer _) rfl ?_ | refine keep_cons (v := _) rfl ?_) <;> (first | refine keep_cons (v := .pointer _) rfl ?_ | refine keep_cons (v := _) rfl ?_) <;> (first | refine keep_cons (v := .pointer _) rfl ?_ | refine keep_cons (v := _) rfl ?_) <;> (first | refine keep_cons (v := .pointer _) rfl ?_ | refine keep_cons (v := _) rfl ?_) <;> (first | refine keep_cons (v := .slice _ _ _) rfl ?_ | refine keep_cons (v := _) rfl ?_) <;> (first | refine keep_cons (v := .slice _ _ _) rfl ?_ | refine keep_cons (v := _) rfl ?_) <;> (first | refine keep_cons (v := .pointer _) rfl ?_ | refine keep_cons (v := _) rfl ?_) <;> (first | refine keep_cons (v := .slice _ _ _) rfl ?_ | refine keep_cons (v := _) rfl ?_) <;> (first | refine keep_cons (v := .int _ _) rfl ?_ | refine keep_cons (v := _) rfl ?_) <;> (first | refine keep_cons (v := .int _ _) rfl ?_ | refine keep_cons (v := _) rfl ?_))) <;> (try refine keep_nil ?_))) | refine wC ?_ | (refine ex_split rfl ?_ ?_ <;> intro hc))
            refine Ex.ent ?_ (ent_clL (b := b12) (l' := Bd.lc (x1, x2, x3, x4)) rfl)
            cases hz1 : (x1 == 0) with
            | false =>
              have hsh : [((x1, x2, x3, x4) : Bd.Rl)].filter shown = [] := by simp [shown, hz1]
              rw [hsh, List.map_nil, List.append_nil] at htk
              repeat' (first | (refine rG 18 [5, 6, 7, 8, 9, 10, 12, 53, 54, 55, 66] ?_; ((try refine wO ?_) <;> (repeat' (refine g_split rfl (by decide) rfl (by decide) ?_ ?_ <;> intro hc <;> (try refine wO ?_))) <;> (try (refine wK ?_; intro _)))) | (refine rG 20 [5, 6, 7, 8, 9, 10, 53, 54, 55] ?_; ((try (refine wK ?_; intro _)))) | refine wC ?_ | (refine ex_split rfl ?_ ?_ <;> intro hc))
              rw [ei]
              refine ⟨L.length - (i + 1), by omega, _, ?_, _, i + 1, wa, wc, W, rfl, rfl, htk.symm, hwc, by omega, rfl⟩
              exact ent_take
            | true =>
              cases x4 with
              | true =>
                have hsh : [((x1, x2, x3, true) : Bd.Rl)].filter shown = [] := by simp [shown]
                rw [hsh, List.map_nil, List.append_nil] at htk
                repeat' (first | (refine rG 18 [5, 6, 7, 8, 9, 10, 12, 53, 54, 55, 66] ?_; ((try refine wO ?_) <;> (repeat' (refine g_split rfl (by decide) rfl (by decide) ?_ ?_ <;> intro hc <;> (try refine wO ?_))) <;> (try (refine wK ?_; intro _)))) | (refine rG 20 [5, 6, 7, 8, 9, 10, 53, 54, 55] ?_; ((try (refine wK ?_; intro _)))) | refine wC ?_ | (refine ex_split rfl ?_ ?_ <;> intro hc))
                rw [ei]
                refine ⟨L.length - (i + 1), by omega, _, ?_, _, i + 1, wa, wc, W, rfl, rfl, htk.symm, hwc, by omega, rfl⟩
                exact ent_take
              | false =>
                have hsh : [((x1, x2, x3, false) : Bd.Rl)].filter shown = [(x1, x2, x3, false)] := by simp [shown, hz1]
                rw [hsh] at htk
                repeat' (first | (refine rG 18 [5, 6, 7, 8, 9, 10, 12, 53, 54, 55, 66] ?_; ((try refine wO ?_) <;> (repeat' (refine g_split rfl (by decide) rfl (by decide) ?_ ?_ <;> intro hc <;> (try refine wO ?_))) <;> (try (refine wK ?_; intro _)))) | (refine rG 19 [5, 6, 7, 8, 9, 10, 53, 54, 55] ?_; ((try refine wO ?_) <;> (try ((refine o_buildSlice (by decide) rfl rfl rfl (fun _ => ?_)))) <;> (try (refine o_appendT (cells := cw .i64) (xs := W) (ys := [x3]) cw_len cw_one (by decide) rfl rfl rfl rfl rfl (by simp only [List.length_cons, List.length_nil]; omega) (by simp only [maxLen, List.length_cons, List.length_nil]; omega) (fun a' cap' hc' => ?_))) <;> (try (refine wK ?_; intro _)))) | (refine rG 20 [5, 6, 7, 8, 9, 10, 53, 54, 55] ?_; ((try (refine wK ?_; intro _)))) | refine wC ?_ | (refine ex_split rfl ?_ ?_ <;> intro hc))
                rw [ei]
                refine ⟨L.length - (i + 1), by omega, _, ?_, _, i + 1, a', cap', W ++ [x3], rfl, rfl, htk.symm, hc', by omega, rfl⟩
                exact ent_take
          · have hil : i = L.length := by omega
            have hd : decide ((i : Int) < (L.length : Int)) = false := decide_eq_false (by omega)
            repeat' (first | (refine rG 16 [5, 6, 7, 8, 9, 10, 53, 54, 55, 56] ?_; ((try (refine wK ?_; intro _)))) | refine wC ?_ | (refine ex_split rfl ?_ ?_ <;> intro hc))
            exact ⟨rfl, _, i, wa, wc, W, _, rfl, by rw [hW, List.take_of_length_le (by omega)], hwc, ent_take⟩
      · rintro e H' ⟨G, i0, wa, wc, W, v0, rfl, hW, hwc, hE⟩
        refine Ex.ent ?_ hE
        subst hX
        refine Ex.ent ?_ (ent_head (CE yb c))
        obtain ⟨le, sp, re, q, run, id, rows, taken⟩ := c
        obtain ⟨hpp, hm0, hins, hvals⟩ := hf
        unfold Tel at htc
        dsimp only at hrw hrl hpp hins hvals htc k1
        rw [hpp] at htc
        have hkt : rnTake (newRu pF) taken = (run, rows) := htc
        have hWv : (taken ++ q).map ival = W := hvals.trans hW.symm
        refine ex_ce fun rb pb mb oa ocp qa qc ra' rc' ta tc _ _ _ => ?_
        refine ex_seq ?_
        refine R.ex_cut (fun e H' => ∃ G, ∃ ia, ∃ ic : Nat, ∃ ga, ∃ gc : Nat, ∃ i : Nat, ∃ v : Bool, e = put (put (put (put (put (put (put (put (put (put G 5 (.pointer (some ⟨b11, 0, none⟩))) 6 (.pointer (some ⟨b6, 0, none⟩))) 7 (.pointer (some ⟨b, 0, none⟩))) 8 (.pointer (some ⟨yb, 0, none⟩))) 9 (.slice wa W.length wc)) 10 (.slice ga W.length gc)) 80 (.slice ia (taken ++ q).length ic)) 81 (.int .i64 ((taken ++ q).length : Int))) 82 (.int .i64 (i : Int))) 83 (.bool v) ∧
          Ent H' (ow 3 1 ga W.length gc (W.flatMap (cw .i64)) * (ow 3 1 wa W.length wc (W.flatMap (cw .i64)) * (cl true yb [.int .i64 le, .int .i64 sp, .int .i64 re, .slice qa q.length qc, .pointer (some ⟨rb, 0, none⟩), .int .i64 id, .slice ra' rows.length rc', .slice ta taken.length tc] 60 (0, 0) * (ow 39 5 ta taken.length tc (taken.flatMap inc) * (CO b s2 * cl true b6 (ppc none 0 pF) 33 (0, 0))))))) ?_ ?_
        · refine ex_seq ?_
          refine R.ex_cut (fun e H' => ∃ G, ∃ ia, ∃ ic : Nat, e = put (put (put (put (put (put (put (put (put G 5 (.pointer (some ⟨b11, 0, none⟩))) 6 (.pointer (some ⟨b6, 0, none⟩))) 7 (.pointer (some ⟨b, 0, none⟩))) 8 (.pointer (some ⟨yb, 0, none⟩))) 9 (.slice wa W.length wc)) 10 (.slice none 0 0)) 80 (.slice ia (taken ++ q).length ic)) 81 (.int .i64 ((taken ++ q).length : Int))) 82 (.int .i64 (0 : Int)) ∧ (taken ++ q).length ≤ ic ∧
            Ent H' (ow 39 5 ia (taken ++ q).length ic ((taken ++ q).flatMap inc) * (cl true b11 [.int .i64 bu', .int .i64 ro', .int .i64 qu', .slice (some sb) (k7 k :: r).length sd] 27 (0, 0) * (ow 74 5 (some sb) (k7 k :: r).length sd ((k7 k :: r).flatMap sc) * (ow 3 1 wa W.length wc (W.flatMap (cw .i64)) * (cl true yb [.int .i64 le, .int .i64 sp, .int .i64 re, .slice qa q.length qc, .pointer (some ⟨rb, 0, none⟩), .int .i64 id, .slice ra' rows.length rc', .slice ta taken.length tc] 60 (0, 0) * (ow 39 5 ta taken.length tc (taken.flatMap inc) * (CO b s2 * cl true b6 (ppc none 0 pF) 33 (0, 0))))))))) ?_ ?_
          · repeat' (first | (refine rA 21 [5, 6, 7, 8, 9, 10, 80, 81, 82] 10 ?_; (refine os_all ?_); ((refine lQ 0 ?_; ((refine lQ 2 ?_; ((refine lQ 3 ?_; ((refine lQ 4 ?_; ((refine lC (v := ?_) 5 ?_ ?_; rotate_left; (focus ((refine o_load_a (vs := [.slice qa q.length qc]) (by decide) rfl rfl ?_) <;> exact lL)); ((refine lQ 9 ?_; ((refine oN 1 ?_ <;> ((refine o_callH (ceTaken yb _ _ _ _ _ _ _ ta taken tc _ (by omega)) (by first | exact True.intro | (show _ < _; decide)) rfl rfl (fun y74 h74 => ?_))) <;> (refine os_nil ?_) <;> ((refine oN 6 ?_ <;> ((refine o_callH (queAll _ qa q qc (by omega)) (by first | exact True.intro | (show _ < _; decide)) rfl rfl (fun y79 h79 => ?_))) <;> (refine os_nil ?_) <;> ((refine oN 7 ?_ <;> ((refine o_appendT (cells := inc) (xs := taken) (ys := q) inc_len inc_one (by decide) rfl rfl rfl rfl rfl (by omega) (by simp only [maxLen]; omega) (fun a80 c80 h80 => ?_))) <;> (refine os_nil ?_) <;> ((refine lQ 8 ?_; ((refine dK ?_; intro _))))))))))))))))))))))) | refine wC ?_ | (refine ex_split rfl ?_ ?_ <;> intro hc))
            all_goals
              exact ⟨rfl, _, a80, c80, rfl, h80, ent_take⟩
          · rintro e H' ⟨G, ia, ic, rfl, hic, hE⟩
            refine Ex.ent ?_ hE
            have hil : (taken ++ q).length ≤ 205 := by rw [List.length_append]; omega
            generalize hZ : ow 3 1 wa W.length wc (W.flatMap (cw .i64)) * (cl true yb [.int .i64 le, .int .i64 sp, .int .i64 re, .slice qa q.length qc, .pointer (some ⟨rb, 0, none⟩), .int .i64 id, .slice ra' rows.length rc', .slice ta taken.length tc] 60 (0, 0) * (ow 39 5 ta taken.length tc (taken.flatMap inc) * (CO b s2 * cl true b6 (ppc none 0 pF) 33 (0, 0)))) = Z
            refine Ex.ent ?_ (Ent.ow_none 3 1 _)
            refine wC ?_
            generalize hI : taken ++ q = I at *
            refine ex_loopE (fun mm e H' => ∃ g, ∃ i : Nat, ∃ ga, ∃ gc : Nat, ∃ V : List Int, e = put (put (put (put (put (put (put (put (put g 5 (.pointer (some ⟨b11, 0, none⟩))) 6 (.pointer (some ⟨b6, 0, none⟩))) 7 (.pointer (some ⟨b, 0, none⟩))) 8 (.pointer (some ⟨yb, 0, none⟩))) 9 (.slice wa W.length wc)) 10 (.slice ga V.length gc)) 80 (.slice ia I.length ic)) 81 (.int .i64 (I.length : Int))) 82 (.int .i64 (i : Int)) ∧
              H' = ow 3 1 ga V.length gc (V.flatMap (cw .i64)) * (ow 39 5 ia I.length ic (I.flatMap inc) * (cl true b11 [.int .i64 bu', .int .i64 ro', .int .i64 qu', .slice (some sb) (k7 k :: r).length sd] 27 (0, 0) * (ow 74 5 (some sb) (k7 k :: r).length sd ((k7 k :: r).flatMap sc) * Z))) ∧ V = (I.take i).map ival ∧ V.length ≤ gc ∧ i ≤ I.length ∧ mm = I.length - i) (m := I.length) ⟨_, 0, none, 0, [], rfl, rfl, by simp, by simp, by omega, by omega⟩ ?_ ?_
            · exact Ent.refl _
            · rintro mm e H' ⟨g, i, ga, gc, V, rfl, rfl, hV, hgc, hi, rfl⟩
              have ei : IntKind.i64.wrap ((i : Int) + 1) = ((i + 1 : Nat) : Int) := by rw [IntKind.wrap_i64]; omega
              have hVl : V.length ≤ 205 := by
                rw [hV, List.length_map, List.length_take]
                omega
              by_cases hlt : i < I.length
              · have hd : decide ((i : Int) < (I.length : Int)) = true := decide_eq_true (by omega)
                have h0 : 0 ≤ (i : Int) := by omega
                have h1 : (i : Int) < (I.length : Int) := by omega
                refine Ex.rd_some (a := ia) (l := I.flatMap inc) (by rw [flat_len inc_len]; omega) (fun ad ha2 => ?_)
                subst ha2
                have hv : sub (I.flatMap inc) ((i : Int).toNat * 5) 5 = some (inc I[i]) := by rw [Int.toNat_natCast]; exact sub_flat inc_len I i hlt
                have htk : (I.take (i + 1)).map ival = V ++ [ival I[i]] := by
                  rw [List.take_succ_eq_append_getElem hlt, List.map_append, ← hV]; rfl
                obtain ⟨x1, x2, x3⟩ := hins _ (List.getElem_mem hlt)
                generalize I[i] = x at *
                obtain ⟨xm, xt, xk, xv, xl⟩ := x
                simp only at x1 x2 x3
                subst x1; subst x2; subst x3
                have hll : (U (k7 k).1 != U (k7 k).1) = false := by simp
                have hl0 : (0 : Int) < ((k7 k :: r).length : Int) := by rw [List.length_cons]; omega
                have hvS : ((k7 k :: r).flatMap sc)[(0 : Int).toNat * 5 + 0]? = some (.int .u64 (U (k7 k).1)) := rfl
                repeat' (first | (refine rG 22 [5, 6, 7, 8, 9, 10, 80, 81, 82, 83] ?_; ((try (refine wK ?_; intro _)))) | (refine ex_regk (id := 23) (ts := [5, 6, 7, 8, 9, 10, 14, 80, 81, 82]) ?_; ((try (refine o_index (by decide) rfl rfl (by first | decide | assumption | omega) (by first | decide | assumption | omega) ?_)) <;> (try (refine o_load_ra (vs := inc (false, xt, 0, xv, (k7 k).1)) (by decide) rfl hv ?_)) <;> (try ((refine o_alloc_a (by decide) (fun b14 => ?_)))) <;> (try (first | refine o_store_a rfl rfl rfl rfl rfl ?_ | refine o_store_oa rfl rfl rfl (Nat.succ_pos _) rfl (by assumption) ?_)) <;> (try (refine ops_nilk ?_; intro _)) <;> (try ((first | refine keep_cons (v := .pointer _) rfl ?_ | refine keep_cons (v := _) rfl ?_) <;> (first | refine keep_cons (v := .pointer _) rfl ?_ | refine keep_cons (v := _) rfl ?_) <;> (first | refine keep_cons (v := .pointer _) rfl ?_ | refine keep_cons (v := _) rfl ?_) <;> (first | refine keep_cons (v := .pointer _) rfl ?_ | refine keep_cons (v := _) rfl ?_) <;> (first | refine keep_cons (v := .slice _ _ _) rfl ?_ | refine keep_cons (v := _) rfl ?_) <;> (first | refine keep_cons (v := .slice _ _ _) rfl ?_ | refine keep_cons (v := _) rfl ?_) <;> (first | refine keep_cons (v := .pointer _) rfl ?_ | refine keep_cons (v := _) rfl ?_) <;> (first | refine keep_cons (v := .slice _ _ _) rfl ?_ | refine keep_cons (v := _) rfl ?_) <;> (first | refine keep_cons (v := .int _ _) rfl ?_ | refine keep_cons (v := _) rfl ?_) <;> (first | refine keep_cons (v := .int _ _) rfl ?_ | refine keep_cons (v := _) rfl ?_))) <;> (try refine keep_nil ?_))) | refine wC ?_ | (refine ex_split rfl ?_ ?_ <;> intro hc))
                refine Ex.ent ?_ (ent_clL (b := b14) (l' := inc (false, xt, 0, xv, (k7 k).1)) rfl)
                repeat' (first | (refine rA 24 [5, 6, 7, 8, 9, 10, 14, 80, 81, 82, 104] 19 ?_; (refine os_all ?_); ((refine lQ 0 ?_; ((refine lQ 1 ?_; ((refine lQ 2 ?_; ((refine lQ 3 ?_; ((refine lQ 4 ?_; ((refine lQ 5 ?_; ((refine lQ 6 ?_; ((refine lQ 7 ?_; ((refine lQ 8 ?_; ((refine lQ 9 ?_; ((refine lQ 10 ?_; ((refine lQ 11 ?_; ((refine lQ 12 ?_; ((refine lQ 13 ?_; ((refine lQ 14 ?_; ((refine lQ 15 ?_; ((refine lQ 16 ?_; ((refine lQ 17 ?_; ((refine lQ 18 ?_; ((refine dK ?_; intro _))))))))))))))))))))))))))))))))))))))))) | refine wC ?_ | (refine ex_split rfl ?_ ?_ <;> intro hc))
                repeat' (first | (refine rG 26 [5, 6, 7, 8, 9, 10, 80, 81, 82] ?_; ((try refine wO ?_) <;> (try ((refine o_buildSlice (by decide) rfl rfl rfl (fun _ => ?_)))) <;> (try (refine o_appendT (cells := cw .i64) (xs := V) (ys := [xv]) cw_len cw_one (by decide) rfl rfl rfl rfl rfl (by simp only [List.length_cons, List.length_nil]; omega) (by simp only [maxLen, List.length_cons, List.length_nil]; omega) (fun a' cap' hc' => ?_))) <;> (try (refine wK ?_; intro _)))) | (refine rG 27 [5, 6, 7, 8, 9, 10, 80, 81, 82] ?_; ((try (refine wK ?_; intro _)))) | refine wC ?_ | (refine ex_split rfl ?_ ?_ <;> intro hc))
                rw [ei]
                refine ⟨I.length - (i + 1), by omega, _, ?_, _, i + 1, a', cap', V ++ [xv], rfl, rfl, htk.symm, hc', by omega, rfl⟩
                exact ent_take
              · have hd : decide ((i : Int) < (I.length : Int)) = false := decide_eq_false (by omega)
                have hVW : V = W := by rw [hV, List.take_of_length_le (by omega)]; exact hWv
                subst hVW
                repeat' (first | (refine rG 22 [5, 6, 7, 8, 9, 10, 80, 81, 82, 83] ?_; ((try (refine wK ?_; intro _)))) | refine wC ?_ | (refine ex_split rfl ?_ ?_ <;> intro hc))
                refine ⟨rfl, _, ia, ic, ga, gc, i, _, rfl, ?_⟩
                exact ent_take
        · rintro e H' ⟨G, ia, ic, ga, gc, i0, v0, rfl, hE⟩
          refine Ex.ent ?_ hE
          have hWl : W.length ≤ 1000000 := by rw [← hWv, List.length_map, List.length_append]; omega
          have hz := fun (H' : HP) (h1 : RdC H' ga (W.flatMap (cw .i64))) (h2 : RdC H' wa (W.flatMap (cw .i64))) => sameZ H' ga wa W W gc wc (ha := h1) (hb := h2) rfl rfl hWl
          rw [decide_eq_true rfl] at hz
          have hwr := fun (H' : HP) (a : Option Addr) (c : Nat) (h : RdC H' a (taken.flatMap inc)) => wholeRows H' pF none 0 a taken c (hr := rdc_nil _) (hi := h) (by decide) (by omega)
          rw [hkt] at hwr
          dsimp only at hwr
          repeat' (first | (refine rA 28 [4] 16 ?_; (refine os_all ?_); ((refine lQ 0 ?_; ((refine lQ 1 ?_; ((refine lC (v := ?_) 2 ?_ ?_; rotate_left; (focus (((refine o_callH (hz _ inferInstance inferInstance) (by first | exact True.intro | (show _ < _; decide)) rfl rfl (fun _ _ => ?_))) <;> exact lL)); ((refine lQ 3 ?_; ((refine lQ 4 ?_; ((refine lQ 6 ?_; ((refine lQ 7 ?_; ((refine oN 5 ?_ <;> ((refine wO ?_) <;> (try ((refine o_callH (hrw _ _ inferInstance) (by first | exact True.intro | (show _ < _; decide)) rfl rfl (fun y117 h117 => ?_))))) <;> (refine os_nil ?_) <;> ((refine oN 8 ?_ <;> ((refine wO ?_) <;> (try ((refine o_callH (ceTaken yb _ _ _ _ _ _ _ ta taken tc _ (by omega)) (by first | exact True.intro | (show _ < _; decide)) rfl rfl (fun y120 h120 => ?_))))) <;> (refine os_nil ?_) <;> ((refine oN 9 ?_ <;> ((refine wO ?_) <;> (try ((refine o_callH (hwr _ y120.1 y120.2 inferInstance) (by first | exact True.intro | (show _ < _; decide)) rfl rfl (fun y121 h121 => ?_))))) <;> (refine os_nil ?_) <;> ((refine oN 10 ?_ <;> ((refine wO ?_) <;> (try ((refine o_callH (sameRT _ y117.1 y121.1 rows y117.2 y121.2 (by omega)) (by first | exact True.intro | (show _ < _; decide)) rfl rfl (fun _ _ => ?_))))) <;> (refine os_nil ?_) <;> ((refine lQ 11 ?_; ((refine lQ 12 ?_; ((refine lC (v := ?_) 13 ?_ ?_; rotate_left; (focus (((refine wO ?_) <;> (try ((refine o_call awakeK (by first | exact True.intro | (show _ < _; decide)) rfl rfl (fun _ _ => ?_))))) <;> exact lL)); ((refine lQ 14 ?_; ((refine lQ 15 ?_; ((refine dK ?_; intro _))))))))))))))))))))))))))))))))))) | refine wC ?_ | (refine ex_split rfl ?_ ?_ <;> intro hc))
          all_goals exact fin (.inr rfl) () (resl1 rfl (rv_tmp rfl)) trivial (Ent.toOne _)
end Go.Proofs.YtcelailgedndnaaGreatS
