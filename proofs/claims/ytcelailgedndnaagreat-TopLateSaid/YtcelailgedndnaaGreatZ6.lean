/- Contracts of the functions that the statement reaches: the walk of the program by the small logic, part 6: Q0, QA, QB, QC, QD, QE, E4, QF, QG, QI, QJ, QK. No condition beyond what each theorem states. -/
import Derived.Test.YtcelailgedndnaaGreatZ5
namespace Go.Proofs.YtcelailgedndnaaGreatS
open Go.RowKit
set_option linter.unusedVariables false
set_option linter.unusedSimpArgs false
/-! The core as a plain state machine: no program in sight. -/
/-- A pipe: operations, size, slide, kind, sink, feed. -/
abbrev Pp : Type := List (Int × Int) × Int × Int × Int × Int × Int
def ppc (a : Option Addr) (cap : Nat) (p : Pp) : List Value := [.slice a p.1.length cap, .int .i64 p.2.1, .int .i64 p.2.2.1, .int .i64 p.2.2.2.1, .int .i64 p.2.2.2.2.1, .int .i64 p.2.2.2.2.2]
def pir (p : Pp) : Bool := R.pipr p.1 p.2.1 p.2.2.1 p.2.2.2.1 p.2.2.2.2.1 p.2.2.2.2.2
def mayP (id : Int) (p : Pp) (ss : List Sk) : Bool := R.mayF id p.1 p.2.1 p.2.2.1 p.2.2.2.1 p.2.2.2.2.1 p.2.2.2.2.2 ss
structure Ru where
  mark : Int
  late : Int
  seen : Int
  pp : Pp
  P : Pm
def newRu (p : Pp) : Ru := ⟨0, 0, 0, p, []⟩
def rnEvent (r : Ru) (e : Ev) : Ru :=
  { r with late := (onF e.1 r.mark r.late r.seen).1, seen := (onF e.1 r.mark r.late r.seen).2.1,
           P := if (onF e.1 r.mark r.late r.seen).2.2 && (R.rn r.pp.1 e).2 then putE r.pp.2.1 r.pp.2.2.1 r.pp.2.2.2.1 r.P (R.rn r.pp.1 e).1 else r.P }
def rnIn (r : Ru) (i : In) : Ru × List Rw :=
  if i.1 then
    if adF i.2.1 r.mark then ({ r with mark := i.2.1, P := clP r.pp.2.1 i.2.1 r.P }, clR r.pp.2.1 i.2.1 r.P) else (r, [])
  else (rnEvent r i.2, [])
def rnTake (r : Ru) (l : List In) : Ru × List Rw := l.foldl (fun x i => ((rnIn x.1 i).1, x.2 ++ (rnIn x.1 i).2)) (r, [])
structure Cd where
  left : Int
  spent : Int
  refused : Int
  q : List In
  run : Ru
  id : Int
  rows : List Rw
  taken : List In
def newCd (id most : Int) (p : Pp) : Cd := ⟨if (0 : Int) > most then 0 else most, 0, 0, [], newRu p, id, [], []⟩
def evR (e : Ev) : Bool := decide (e.1 ≥ 0) && decide (e.1 ≤ tmax) && decide (e.2.1 ≥ 0) && decide (e.2.1 ≤ 255) && !decide (e.2.2.2 = 0)
def ownI (id : Int) (i : In) : In × Bool :=
  if i.1 then ((true, (i.2.1, 0, 0, 0)), decide (i.2.1 ≥ 1) && decide (i.2.1 ≤ far))
  else ((false, (i.2.1, i.2.2.1, i.2.2.2.1, bt id)), evR (i.2.1, i.2.2.1, i.2.2.2.1, bt id))
def refuse (c : Cd) : Cd := { c with refused := IntKind.i64.wrap (c.refused + 1) }
def offer (room : Int) (i : In) (c : Cd) : Cd × Int :=
  if (ownI c.id i).2 = false then (refuse c, 1)
  else if c.left = 0 then (refuse c, 4)
  else if (c.q.length : Int) + 1 > room then (refuse c, 3)
  else ({ c with q := c.q ++ [(ownI c.id i).1], left := c.left - 1, spent := IntKind.i64.wrap (c.spent + 1) }, 0)
def feedC (e : Ev) (c : Cd) : Cd := if evR e then { c with q := c.q ++ [(false, e)] } else c
def serve (n : Int) (c : Cd) : Cd × List Rw :=
  let y := rnTake c.run (c.q.take (pk n c.q.length))
  ({ c with q := c.q.drop (pk n c.q.length), taken := c.taken ++ c.q.take (pk n c.q.length), run := y.1, rows := c.rows ++ y.2 }, y.2)
def rowsAt (f n : Int) (c : Cd) : List Rw × Int :=
  if f < 0 ∨ f > (c.rows.length : Int) then ([], 5) else ((c.rows.drop f.toNat).take (Bd.tk n (c.rows.length - f.toNat)), 0)
structure Cs where
  bu : Int
  ro : Int
  qu : Int
  sinks : List Sk
  cells : List (Option Cd)
  pots : List (Int × Pt)
  told : List (List Bd.Rl)
  ticks : Int
def cell (s : Cs) (t : Nat) : Option Cd := (s.cells[t]?).getD none
def register (tn : Int) (p : Pp) (s : Cs) : Cs × Int :=
  if ¬ (0 ≤ tn ∧ tn ≤ 7) then (s, 2)
  else if (cell s tn.toNat).isSome then (s, 6)
  else if mayP tn p s.sinks = false then (s, 1)
  else ({ s with cells := s.cells.set tn.toNat (some (newCd tn s.qu p)) }, 0)
def serve1 (t : Nat) (n : Int) (s : Cs) : Cs :=
  match cell s t with
  | none => s
  | some c => { s with cells := s.cells.set t (some (serve n c).1),
                       pots := if c.run.pp.2.2.2.2.1 = -1 then s.pots else
                         match s.sinks[c.run.pp.2.2.2.2.1.toNat]?, s.pots[c.run.pp.2.2.2.2.1.toNat]? with
                         | some k, some p => s.pots.set c.run.pp.2.2.2.2.1.toNat (p.1, gv k.1 (t : Int) p.1 p.2 (serve n c).2)
                         | _, _ => s.pots }
def waits (s : Cs) (t : Nat) : Int := match cell s t with | none => 0 | some c => (c.q.length : Int)
def serveAll (s : Cs) : Cs := (order s.ticks).foldl (fun x t => serve1 t (turnN s.bu (waits s t)) x) s
def feed1 (k : Sk) (r : Bd.Rl) (t : Nat) (c : Cd) : Cd :=
  if hs k.2.1 (t : Int) && (c.run.pp.2.2.2.2.2 == r.1) then feedC (c.run.mark, r.1, r.2.2.1, k.1) c else c
def feedAll (k : Sk) (r : Bd.Rl) (s : Cs) : Cs := { s with cells := s.cells.mapIdx fun t c => c.map (feed1 k r t) }
def pinAll (m : BitVec 64) (r : Bd.Rl) (l : List (List Bd.Rl)) : List (List Bd.Rl) := l.mapIdx fun t x => Bd.pins m [r] t x
def rel (i : Nat) (k : Sk) (p : Pt) (tick : Int) : Bd.Rl := ((i : Int), (ep k tick).1, if few p k then 0 else p.2.1, few p k)
def tick1 (i : Nat) (s : Cs) : Cs :=
  match s.sinks[i]?, s.pots[i]? with
  | some k, some p =>
    if (ep k s.ticks).2 then
      let s1 : Cs := { s with pots := s.pots.set i (k.2.2.2.1, (0, 0, 0)), told := pinAll k.2.1 (rel i k p.2 s.ticks) s.told }
      if few p.2 k then s1 else feedAll k (rel i k p.2 s.ticks) s1
    else s
  | _, _ => s
def tickS (s : Cs) : Cs := (List.range s.sinks.length).foldl (fun x i => tick1 i x) { serveAll s with ticks := IntKind.i64.wrap (s.ticks + 1) }
def toldAt (t f n : Int) (s : Cs) : List Bd.Rl × Int :=
  if ¬ (0 ≤ t ∧ t ≤ 7) then ([], 2) else
  let l := (s.told[t.toNat]?).getD []
  if f < 0 ∨ f > (l.length : Int) then ([], 5) else ((l.drop f.toNat).take (Bd.tk n (l.length - f.toNat)), 0)
/-- An act: kind, tenant, from, n, the pipe, the input. -/
abbrev Ac : Type := Int × Int × Int × Int × Pp × In
abbrev An : Type := Int × List Rw × List Bd.Rl
def cellI (s : Cs) (t : Int) : Option Cd := if 0 ≤ t ∧ t ≤ 7 then cell s t.toNat else none
def doS (a : Ac) (s : Cs) : Cs × An :=
  if a.1 = 1 then ((register a.2.1 a.2.2.2.2.1 s).1, (register a.2.1 a.2.2.2.2.1 s).2, [], [])
  else if a.1 = 3 then (tickS s, 0, [], [])
  else if a.1 = 5 then (s, (toldAt a.2.1 a.2.2.1 a.2.2.2.1 s).2, [], (toldAt a.2.1 a.2.2.1 a.2.2.2.1 s).1)
  else if a.1 ≠ 2 ∧ a.1 ≠ 4 then (s, 1, [], [])
  else match cellI s a.2.1 with
    | none => (s, 2, [], [])
    | some c =>
      if a.1 = 2 then ({ s with cells := s.cells.set a.2.1.toNat (some (offer s.ro a.2.2.2.2.2 c).1) }, (offer s.ro a.2.2.2.2.2 c).2, [], [])
      else (s, (rowsAt a.2.2.1 a.2.2.2.1 c).2, (rowsAt a.2.2.1 a.2.2.2.1 c).1, [])
def rightS (bu ro qu : Int) (l : List Sk) : Bool := (decide (1 ≤ bu) && decide (bu ≤ 8)) && (decide (1 ≤ ro) && decide (ro ≤ 16)) && (decide (0 ≤ qu) && decide (qu ≤ 4000)) && (l.all R.rs1 && decide (l.length ≤ 4))
def newCs (bu ro qu : Int) (l : List Sk) : Cs := ⟨bu, ro, qu, l, List.replicate 8 none, l.map fun k => (k.2.2.2.1, (0, 0, 0)), List.replicate 8 [], 0⟩
end Go.Proofs.YtcelailgedndnaaGreatS
namespace Go.Proofs.YtcelailgedndnaaGreatS
open Go.RowKit
set_option linter.unusedVariables false
set_option linter.unusedSimpArgs false
theorem snoc_ind {α : Type} {P : List α → Prop} (h0 : P []) (h1 : ∀ l a, P l → P (l ++ [a])) (l : List α) : P l := by
  have h : ∀ m : List α, P m.reverse := fun m => by
    induction m with
    | nil => exact h0
    | cons a m ih => rw [List.reverse_cons]; exact h1 _ _ ih
  have := h l.reverse
  rwa [List.reverse_reverse] at this
theorem ent_fz {el sz m cap : Nat} {a : Option Addr} {l : List Value} {H R : HP} [t : Take (ow el sz a m cap l) H R] : Ent H (rs a l * R) := by rw [t.eq]; exact fz_ow.frame R
theorem rnEvent_pp (r : Ru) (e : Ev) : (rnEvent r e).pp = r.pp := rfl
theorem rnIn_pp (r : Ru) (i : In) : (rnIn r i).1.pp = r.pp := by unfold rnIn; split; split <;> rfl; rfl
theorem pget_keys : ∀ (P : Pm) (p : Pl), p ∈ P.map (·.1) ↔ (pget P p).isSome
  | [], p => by simp [pget]
  | x :: P, p => by
    have f : pget (x :: P) p = if p = x.1 then some x.2 else pget P p := rfl
    rw [f, List.map_cons, List.mem_cons, pget_keys P p]
    by_cases h : p = x.1
    · simp [h]
    · simp [h]
theorem pdel_len_mem : ∀ (P : Pm) (p : Pl), p ∈ P.map (·.1) → (pdel P p).length + 1 = P.length
  | [], p, h => by simp at h
  | x :: P, p, h => by
    have e : pdel (x :: P) p = if p = x.1 then P else x :: pdel P p := rfl
    rw [e]
    by_cases h1 : p = x.1
    · rw [if_pos h1]; rfl
    · rw [if_neg h1, List.length_cons, List.length_cons]
      have : p ∈ P.map (·.1) := by rw [List.map_cons] at h; exact (List.mem_cons.1 h).resolve_left h1
      rw [pdel_len_mem P p this]
theorem fold_len_mem : ∀ (l : List Pl) (P : Pm), l.Nodup → (∀ p ∈ l, p ∈ P.map (·.1)) → (l.foldl pdel P).length + l.length = P.length
  | [], _, _, _ => rfl
  | q :: l, P, hn, h => by
    have hq := List.nodup_cons.1 hn
    have h2 := fold_len_mem l (pdel P q) hq.2 (fun p hp => by
      have hpq : p ≠ q := fun e => hq.1 (e ▸ hp)
      rw [pget_keys, pget_pdel P p q hpq, ← pget_keys]
      exact h p (List.mem_cons_of_mem _ hp))
    have h3 := pdel_len_mem P q (h q (List.mem_cons_self ..))
    rw [List.foldl_cons, List.length_cons]; omega
theorem clRP_len {sz m : Int} {P : Pm} (hN : (P.map (·.1)).Nodup) : (clP sz m P).length + (clR sz m P).length = P.length := by
  unfold clP clR
  rw [List.length_map]
  refine fold_len_mem _ _ ((pkeys_nodup hN).filter _) (fun p hp => ?_)
  exact (psort_perm _).mem_iff.1 (List.mem_filter.1 hp).1
/-- A runner that holds at most so many panes. -/
def RuOk (r : Ru) (n : Nat) : Prop := r.pp.1.length ≤ 100 ∧ (r.P.map (·.1)).Nodup ∧ r.P.length ≤ n
theorem rnEvent_ok {r : Ru} {n : Nat} (h : RuOk r n) (e : Ev) : RuOk (rnEvent r e) (n + 8) := by
  obtain ⟨h1, h2, h3⟩ := h
  refine ⟨h1, ?_, ?_⟩
  · show ((if _ then _ else _ : Pm).map (·.1)).Nodup
    split
    · exact putE_nodup _ _ _ _ h2
    · exact h2
  · show (if _ then _ else _ : Pm).length ≤ n + 8
    split
    · exact Nat.le_trans (putE_len _ _ _ _ _) (by omega)
    · omega
theorem rnIn_ok {r : Ru} {n : Nat} {L : List Rw} (h : RuOk r (n - L.length)) (hL : L.length ≤ n) (i : In) : RuOk (rnIn r i).1 (n + 8 - (L ++ (rnIn r i).2).length) ∧ (L ++ (rnIn r i).2).length ≤ n := by
  unfold rnIn
  split
  · split
    · obtain ⟨h1, h2, h3⟩ := h
      have h4 := clRP_len (sz := r.pp.2.1) (m := i.2.1) h2
      have h5 : (L ++ clR r.pp.2.1 i.2.1 r.P).length = L.length + (clR r.pp.2.1 i.2.1 r.P).length := List.length_append
      refine ⟨⟨h1, clP_nodup h2, ?_⟩, ?_⟩
      · show (clP _ _ _).length ≤ _
        simp only; omega
      · simp only; omega
    · obtain ⟨h1, h2, h3⟩ := h
      refine ⟨⟨h1, h2, ?_⟩, ?_⟩ <;> simp only [List.append_nil] <;> omega
  · have := rnEvent_ok h i.2
    obtain ⟨h1, h2, h3⟩ := this
    refine ⟨⟨h1, h2, ?_⟩, ?_⟩ <;> simp only [List.append_nil] <;> omega
theorem rnTake_snoc (r : Ru) (l : List In) (i : In) : rnTake r (l ++ [i]) = ((rnIn (rnTake r l).1 i).1, (rnTake r l).2 ++ (rnIn (rnTake r l).1 i).2) := by unfold rnTake; rw [List.foldl_append]; rfl
theorem rnTake_ok {r : Ru} {n : Nat} (h : RuOk r n) : ∀ l : List In, RuOk (rnTake r l).1 (n + 8 * l.length - (rnTake r l).2.length) ∧ (rnTake r l).2.length ≤ n + 8 * l.length := by
  intro l
  refine snoc_ind (P := fun l => RuOk (rnTake r l).1 (n + 8 * l.length - (rnTake r l).2.length) ∧ (rnTake r l).2.length ≤ n + 8 * l.length) ⟨h, Nat.zero_le _⟩ (fun l i ih => ?_) l
  · have h2 := rnIn_ok ih.1 ih.2 i
    rw [rnTake_snoc, List.length_append, List.length_singleton]
    rw [show n + 8 * (l.length + 1) = n + 8 * l.length + 8 by omega]
    exact ⟨h2.1, Nat.le_trans h2.2 (by omega)⟩
theorem rnTake_pp (r : Ru) (l : List In) : (rnTake r l).1.pp = r.pp := by
  refine snoc_ind (P := fun l => (rnTake r l).1.pp = r.pp) rfl (fun l i ih => ?_) l
  rw [rnTake_snoc]; show (rnIn _ i).1.pp = _; rw [rnIn_pp, ih]
def ruc (r : Ru) (pb : Nat) (oa : Option Addr) (ocp : Nat) : List Value := [.int .i64 r.mark, .int .i64 r.late, .int .i64 r.seen, .pointer (some ⟨pb, 0, none⟩), .slice oa r.pp.1.length ocp, .int .i64 r.pp.2.1, .int .i64 r.pp.2.2.1, .int .i64 r.pp.2.2.2.1, .int .i64 r.pp.2.2.2.2.1, .int .i64 r.pp.2.2.2.2.2]
set_option linter.unusedVariables false
set_option linter.unusedSimpArgs false
attribute [local irreducible] Ops Ex Spec T V QO OA Rn OS
/-- A runner in memory: its block, its pipe's operations, its panes. -/
def RR (rb pb mb : Nat) (oa : Option Addr) (ocp : Nat) (r : Ru) : HP := cl true rb (ruc r pb oa ocp) 65 (0, 0) * (rs oa (r.pp.1.flatMap oc) * PT pb mb r.pp.2.1 r.pp.2.2.1 r.pp.2.2.2.1 r.P)
set_option maxHeartbeats 4000000 in
theorem ruNew (H : HP) (p : Pp) (a : Option Addr) (cap : Nat) [hr : RdC H a (p.1.flatMap oc)] (hp : pir p = true) (hl : p.1.length ≤ 100) : Spec Tryz.prog 46 [.agg (ppc a cap p).toArray] H (X := Nat × Nat × Nat × Option Addr × Nat) (fun y => .pointer (some ⟨y.1, 0, none⟩)) (fun _ => True)
    (fun y => RR y.1 y.2.1 y.2.2.1 y.2.2.2.1 y.2.2.2.2 (newRu p) * H) := by
  obtain ⟨ops, sz, sl, ag, sk, fd⟩ := p
  have hp : R.pipr ops sz sl ag sk fd = true := hp
  have hl : ops.length ≤ 100 := hl
  refine spec_of Tryz.func46 rfl Tryz.ntmps46 rfl ?_
  repeat' (first | (refine rG 0 [1] ?_; ((try ((refine o_box (by decide) (v := .agg (List.toArray _)) rfl rfl (fun b1 => ?_)))) <;> (try (refine wK ?_; intro _)))) | refine wC ?_ | (refine ex_split rfl ?_ ?_ <;> intro hc))
  have hpr := fun (H' : HP) (h : RdC H' a (ops.flatMap oc)) => R.pright H' a ops ops.length cap sz sl ag sk fd (hr := h) rfl rfl (by omega)
  rw [hp] at hpr
  repeat' (first | (refine rG 1 [1, 5] ?_; ((try refine wO ?_) <;> (try (refine o_callH (hpr _ inferInstance) (by first | exact True.intro | (show _ < _; decide)) rfl rfl (fun _ _ => ?_))) <;> (try (refine wK ?_; intro _)))) | (refine rG 3 [1] ?_; ((try refine wO ?_) <;> (try ((refine o_callH (cloneO _ a ops cap (by omega)) (by first | exact True.intro | (show _ < _; decide)) rfl rfl (fun y hy => ?_); obtain ⟨oa, ocp⟩ := y))) <;> (try (refine wK ?_; intro _)))) | refine wC ?_ | (refine ex_split rfl ?_ ?_ <;> intro hc))
  refine Ex.ent ?_ (ent_clL (b := b1) (l' := ppc oa ocp (ops, sz, sl, ag, sk, fd)) rfl)
  repeat' (first | (refine rA 4 [2] 11 ?_; (refine os_all ?_); ((refine lQ 0 ?_; ((refine lQ 1 ?_; ((refine lQ 2 ?_; ((refine lQ 3 ?_; ((refine lQ 4 ?_; ((refine lQ 5 ?_; ((refine lQ 7 ?_; ((refine oN 6 ?_ <;> ((refine o_callH (pnNew _ sz sl ag) (by first | exact True.intro | (show _ < _; decide)) rfl rfl (fun y hy => ?_); obtain ⟨pb, mb⟩ := y)) <;> (refine os_nil ?_) <;> ((refine lQ 8 ?_; ((refine oN 9 ?_ <;> ((refine o_box (by decide) (v := .agg (List.toArray _)) rfl rfl (fun _ => ?_))) <;> (refine os_nil ?_) <;> ((refine lQ 10 ?_; ((refine dK ?_; intro _))))))))))))))))))))))))) | refine wC ?_ | (refine ex_split rfl ?_ ?_ <;> intro hc))
  all_goals
    refine fin (.inr rfl) (_, pb, mb, oa, ocp) (resl1 rfl (rv_tmp rfl)) trivial ?_
    refine Ent.trans (ent_fz (a := oa) (m := ops.length) (cap := ocp) (l := ops.flatMap oc) (el := 159) (sz := 2)) ?_
    rename_i bx _
    refine Ent.trans (ent_clL (b := bx) (l' := ruc (newRu (ops, sz, sl, ag, sk, fd)) pb oa ocp) rfl) ?_
    refine Ent.trans (B := cl true bx (ruc (newRu (ops, sz, sl, ag, sk, fd)) pb oa ocp) 65 (0, 0) * (rs oa (ops.flatMap oc) * (PT pb mb sz sl ag [] * (cl true b1 (ppc oa ocp (ops, sz, sl, ag, sk, fd)) 33 (0, 0) * H)))) (Ent.ofEq rfl) ?_
    show Ent _ ((cl true bx (ruc (newRu (ops, sz, sl, ag, sk, fd)) pb oa ocp) 65 (0, 0) * (rs oa (ops.flatMap oc) * PT pb mb sz sl ag [])) * H)
    exact ent_take
set_option maxHeartbeats 4000000 in
theorem ruEvent {X H : HP} (rb pb mb : Nat) (oa : Option Addr) (ocp : Nat) (r : Ru) (e : Ev) [t : Take (RR rb pb mb oa ocp r) X H] (hl : r.pp.1.length ≤ 100) :
    Spec Tryz.prog 77 [.pointer (some ⟨rb, 0, none⟩), .agg (R.ec e).toArray] X (X := Unit) (fun _ => .tuple #[]) (fun _ => True) (fun _ => RR rb pb mb oa ocp (rnEvent r e) * H) := by
  obtain ⟨m, l, s, ⟨ops, sz, sl, ag, sk, fd⟩, P⟩ := r
  have hl : ops.length ≤ 100 := hl
  rw [t.eq]; unfold RR ruc rnEvent; rw [sep_assoc, sep_assoc]
  show Spec _ _ _ (cl true rb [.int .i64 m, .int .i64 l, .int .i64 s, .pointer (some ⟨pb, 0, none⟩), .slice oa ops.length ocp, .int .i64 sz, .int .i64 sl, .int .i64 ag, .int .i64 sk, .int .i64 fd] 65 (0, 0) * (rs oa (ops.flatMap oc) * (PT pb mb sz sl ag P * H))) _ _ _
  refine spec_of Tryz.func77 rfl Tryz.ntmps77 rfl ?_
  repeat' (first | (refine rG 0 [0, 3] ?_; ((try ((refine o_box (by decide) (v := .agg (List.toArray _)) rfl rfl (fun b3 => ?_)))) <;> (try (refine wK ?_; intro _)))) | refine wC ?_ | (refine ex_split rfl ?_ ?_ <;> intro hc))
  have hon := clOn rb m l s e.1 (.pointer (some ⟨pb, 0, none⟩)) (.slice oa ops.length ocp) (.int .i64 sz) (.int .i64 sl) (.int .i64 ag) (.int .i64 sk) (.int .i64 fd) 65
  generalize hO : onF e.1 m l s = O at *
  obtain ⟨l', s', ok⟩ := O
  obtain ⟨tm, ky, vl, lb⟩ := e
  cases ok with
  | false =>
    repeat' (first | (refine rA 1 [0, 3, 12] 7 ?_; (refine os_but 0 rfl ?_); ((refine lQ 0 ?_; ((refine lQ 1 ?_; ((refine lQ 2 ?_; ((refine lQ 3 ?_; ((refine lQ 4 ?_; ((refine oN 5 ?_ <;> (refine o_callB (by first | exact True.intro | (show _ < _; decide)) rfl rfl hon (fun _ _ => ?_)) <;> (refine os_nil ?_) <;> ((refine lQ 6 ?_; ((refine dK ?_; intro _))))))))))))))))) | refine wC ?_ | (refine ex_split rfl ?_ ?_ <;> intro hc))
    all_goals
      refine fin (.inr rfl) () (resl0 rfl) trivial ?_
      refine Ent.trans (B := cl true rb [.int .i64 m, .int .i64 l', .int .i64 s', .pointer (some ⟨pb, 0, none⟩), .slice oa ops.length ocp, .int .i64 sz, .int .i64 sl, .int .i64 ag, .int .i64 sk, .int .i64 fd] 65 (0, 0) * (cl true b3 (R.ec (tm, ky, vl, lb)) 37 (0, 0) * (rs oa (ops.flatMap oc) * (PT pb mb sz sl ag P * H)))) (Ent.ofEq rfl) ?_
      show Ent _ ((cl true rb [.int .i64 m, .int .i64 l', .int .i64 s', .pointer (some ⟨pb, 0, none⟩), .slice oa ops.length ocp, .int .i64 sz, .int .i64 sl, .int .i64 ag, .int .i64 sk, .int .i64 fd] 65 (0, 0) * (rs oa (ops.flatMap oc) * PT pb mb sz sl ag P)) * H)
      exact ent_take
  | true =>
    repeat' (first | (refine rA 1 [0, 3, 12] 7 ?_; (refine os_but 0 rfl ?_); ((refine lQ 0 ?_; ((refine lQ 1 ?_; ((refine lQ 2 ?_; ((refine lQ 3 ?_; ((refine lQ 4 ?_; ((refine oN 5 ?_ <;> (refine o_callB (by first | exact True.intro | (show _ < _; decide)) rfl rfl hon (fun _ _ => ?_)) <;> (refine os_nil ?_) <;> ((refine lQ 6 ?_; ((refine dK ?_; intro _))))))))))))))))) | refine wC ?_ | (refine ex_split rfl ?_ ?_ <;> intro hc))
    all_goals
      refine Ex.ent (H' := cl true rb [.int .i64 m, .int .i64 l', .int .i64 s', .pointer (some ⟨pb, 0, none⟩), .slice oa ops.length ocp, .int .i64 sz, .int .i64 sl, .int .i64 ag, .int .i64 sk, .int .i64 fd] 65 (0, 0) * (cl true b3 (R.ec (tm, ky, vl, lb)) 37 (0, 0) * (rs oa (ops.flatMap oc) * (PT pb mb sz sl ag P * H)))) ?_ (Ent.ofEq rfl)
      generalize hE : R.rn ops (tm, ky, vl, lb) = E at *
      obtain ⟨⟨tm', ky', vl', lb'⟩, ok'⟩ := E
      have hrun : ∀ (H' : HP), RdC H' oa (ops.flatMap oc) → Spec Tryz.prog 107 [.agg (R.ec (tm, ky, vl, lb)).toArray, .slice oa ops.length ocp] H' (X := Unit) (fun _ => .tuple #[.agg (R.ec (tm', ky', vl', lb')).toArray, .bool ok']) (fun _ => True) (fun _ => H') := fun H' h => by
        have := R.run H' oa ops ocp (tm, ky, vl, lb) _ (hr := h) rfl (by omega)
        rw [hE] at this
        exact this
      repeat' (first | (refine rA 2 [0, 4, 5] 13 ?_; (refine os_all ?_); ((refine lQ 0 ?_; ((refine lQ 1 ?_; ((refine lQ 2 ?_; ((refine lQ 3 ?_; ((refine lQ 4 ?_; ((refine lQ 5 ?_; ((refine os_two 6 10 (by kernel_rfl) rfl rfl ?_ ?_ <;> first | (refine os_sel (d := some 20) rfl ?_ <;> (refine o_callH (hrun _ inferInstance) (by first | exact True.intro | (show _ < _; decide)) rfl rfl (fun _ _ => ?_)) <;> (refine os_nil ?_) <;> ((refine lQ 7 ?_; ((refine lQ 8 ?_; ((refine lQ 9 ?_; ((refine oN 10 ?_ <;> ((refine o_alloc_a (by decide) (fun b4 => ?_))) <;> (refine os_nil ?_) <;> ((refine oN 11 ?_ <;> (refine wO ?_) <;> (refine os_nil ?_) <;> ((refine lQ 12 ?_; ((refine dK ?_; intro _))))))))))))))) | (refine os_sel (d := some 4) rfl ?_ <;> ((refine o_alloc_a (by decide) (fun b4 => ?_))) <;> (refine os_nil ?_) <;> ((refine oN 6 ?_ <;> (refine o_callH (hrun _ inferInstance) (by first | exact True.intro | (show _ < _; decide)) rfl rfl (fun _ _ => ?_)) <;> (refine os_nil ?_) <;> ((refine lQ 7 ?_; ((refine lQ 8 ?_; ((refine lQ 9 ?_; ((refine oN 11 ?_ <;> (refine wO ?_) <;> (refine os_nil ?_) <;> ((refine lQ 12 ?_; ((refine dK ?_; intro _)))))))))))))))))))))))))))))) | refine wC ?_ | (refine ex_split rfl ?_ ?_ <;> intro hc))
      all_goals
        refine Ex.ent ?_ (ent_clL (b := b4) (l' := R.ec (tm', ky', vl', lb')) rfl)
        cases ok' with
        | false =>
          repeat' (first | (refine rG 3 [0, 4, 23] ?_; ((try (refine wK ?_; intro _)))) | refine wC ?_ | (refine ex_split rfl ?_ ?_ <;> intro hc))
          refine fin (.inl rfl) () (resl0 rfl) trivial ?_
          show Ent _ ((cl true rb [.int .i64 m, .int .i64 l', .int .i64 s', .pointer (some ⟨pb, 0, none⟩), .slice oa ops.length ocp, .int .i64 sz, .int .i64 sl, .int .i64 ag, .int .i64 sk, .int .i64 fd] 65 (0, 0) * (rs oa (ops.flatMap oc) * PT pb mb sz sl ag P)) * H)
          exact ent_take
        | true =>
          repeat' (first | (refine rG 3 [0, 4, 23] ?_; ((try (refine wK ?_; intro _)))) | (refine rA 4 [] 7 ?_; (refine os_butP (PT pb mb sz sl ag P) ?_); ((refine lQ 0 ?_; ((refine lQ 1 ?_; ((refine lQ 2 ?_; ((refine lQ 3 ?_; ((refine lC (v := ?_) 4 ?_ ?_; rotate_left; (focus ((refine o_load_a (vs := R.ec (tm', ky', vl', lb')) (by decide) rfl rfl ?_) <;> exact lL)); ((refine oN 5 ?_ <;> ((refine o_buildSlice (by decide) rfl rfl rfl (fun _ => ?_))) <;> (refine os_nil ?_) <;> ((refine oN 6 ?_ <;> (refine o_callH (pnPut pb mb sz sl ag P (tm', ky', vl', lb') _ _) (by first | exact True.intro | (show _ < _; decide)) rfl rfl (fun _ _ => ?_)) <;> (refine os_nil ?_) <;> ((refine dK ?_; intro _))))))))))))))))) | refine wC ?_ | (refine ex_split rfl ?_ ?_ <;> intro hc))
          all_goals
            refine fin (.inl rfl) () (resl0 rfl) trivial ?_
            show Ent _ ((cl true rb [.int .i64 m, .int .i64 l', .int .i64 s', .pointer (some ⟨pb, 0, none⟩), .slice oa ops.length ocp, .int .i64 sz, .int .i64 sl, .int .i64 ag, .int .i64 sk, .int .i64 fd] 65 (0, 0) * (rs oa (ops.flatMap oc) * PT pb mb sz sl ag (putE sz sl ag P (tm', ky', vl', lb')))) * H)
            exact ent_take
end Go.Proofs.YtcelailgedndnaaGreatS
namespace Go.Proofs.YtcelailgedndnaaGreatS
open Go.RowKit
set_option linter.unusedVariables false
set_option linter.unusedSimpArgs false
theorem RR_eq (rb pb mb : Nat) (oa : Option Addr) (ocp : Nat) (m lt s : Int) (ops : List (Int × Int)) (sz sl ag sk fd : Int) (P : Pm) : RR rb pb mb oa ocp ⟨m, lt, s, (ops, sz, sl, ag, sk, fd), P⟩ = cl true rb [.int .i64 m, .int .i64 lt, .int .i64 s, .pointer (some ⟨pb, 0, none⟩), .slice oa ops.length ocp, .int .i64 sz, .int .i64 sl, .int .i64 ag, .int .i64 sk, .int .i64 fd] 65 (0, 0) * (rs oa (ops.flatMap oc) * PT pb mb sz sl ag P) := rfl
instance (priority := 1050) take_RR (rb pb mb : Nat) (oa : Option Addr) (ocp : Nat) (m lt s : Int) (ops : List (Int × Int)) (sz sl ag sk fd : Int) (P : Pm) (H R : HP)
    [h : Take (cl true rb [.int .i64 m, .int .i64 lt, .int .i64 s, .pointer (some ⟨pb, 0, none⟩), .slice oa ops.length ocp, .int .i64 sz, .int .i64 sl, .int .i64 ag, .int .i64 sk, .int .i64 fd] 65 (0, 0) * (rs oa (ops.flatMap oc) * PT pb mb sz sl ag P)) H R] : Take (RR rb pb mb oa ocp ⟨m, lt, s, (ops, sz, sl, ag, sk, fd), P⟩) H R := ⟨h.eq⟩
set_option linter.unusedVariables false
set_option linter.unusedSimpArgs false
attribute [local irreducible] Ops Ex Spec T V QO OA Rn OS
set_option maxRecDepth 100000 in
set_option maxHeartbeats 16000000 in
theorem ruTake {X H : HP} (rb pb mb : Nat) (oa : Option Addr) (ocp : Nat) (r : Ru) (a : Option Addr) (l : List In) (cap : Nat) [t : Take (RR rb pb mb oa ocp r) X H] [hr : RdC H a (l.flatMap inc)] {n : Nat} (hok : RuOk r n) (hn : n + 8 * l.length ≤ 100000) :
    Spec Tryz.prog 47 [.pointer (some ⟨rb, 0, none⟩), .slice a l.length cap] X (X := Option Addr × Nat) (fun y => .slice y.1 (rnTake r l).2.length y.2) (fun y => (rnTake r l).2.length ≤ y.2)
      (fun y => ow 67 5 y.1 (rnTake r l).2.length y.2 ((rnTake r l).2.flatMap rwc) * (RR rb pb mb oa ocp (rnTake r l).1 * H)) := by
  rw [t.eq]
  refine spec_of Tryz.func47 rfl Tryz.ntmps47 rfl ?_
  repeat' (first | (refine rG 0 [0, 1] ?_; ((try (refine wK ?_; intro _)))) | (refine rG 1 [0, 1, 5] ?_; ((try (refine wK ?_; intro _)))) | (refine rG 2 [0, 5, 8, 9, 10] ?_; ((try (refine wK ?_; intro _)))) | refine wC ?_ | (refine ex_split rfl ?_ ?_ <;> intro hc))
  refine Ex.ent ?_ (Ent.ow_none 67 5 _)
  refine ex_loopE (fun mm e H' => ∃ g, ∃ i : Nat, ∃ r' : Ru, ∃ L : List Rw, ∃ ra, ∃ rc : Nat, e = put (put (put (put (put g 0 (.pointer (some ⟨rb, 0, none⟩))) 5 (.slice ra L.length rc)) 8 (.slice a l.length cap)) 9 (.int .i64 (l.length : Int))) 10 (.int .i64 (i : Int)) ∧
    H' = ow 67 5 ra L.length rc (L.flatMap rwc) * (RR rb pb mb oa ocp r' * H) ∧ rnTake r (l.take i) = (r', L) ∧ i ≤ l.length ∧ L.length ≤ rc ∧ mm = l.length - i) (m := l.length) ⟨_, 0, r, [], none, 0, rfl, rfl, rfl, by omega, by simp, by omega⟩ ?_ ?_
  · exact Ent.refl _
  · rintro mm e H' ⟨g, i, r', L, ra, rc, rfl, rfl, hL, hi, hrc, rfl⟩
    by_cases hlt : i < l.length
    · have hd : decide ((i : Int) < (l.length : Int)) = true := by simp; omega
      have h0 : 0 ≤ (i : Int) := by omega
      have h1 : (i : Int) < (l.length : Int) := by omega
      have ei : IntKind.i64.wrap ((i : Int) + 1) = ((i + 1 : Nat) : Int) := by rw [IntKind.wrap_i64]; omega
      refine Ex.rd_some (a := a) (l := l.flatMap inc) (by rw [flat_len inc_len]; omega) (fun ad ha => ?_)
      subst ha
      have hv : sub (l.flatMap inc) ((i : Int).toNat * 5) 5 = some (inc l[i]) := by rw [Int.toNat_natCast]; exact sub_flat inc_len l i hlt
      have hsn : rnTake r (l.take (i + 1)) = ((rnIn r' l[i]).1, L ++ (rnIn r' l[i]).2) := by
        rw [List.take_succ_eq_append_getElem hlt, rnTake_snoc, hL]
      have hok2 := rnTake_ok hok (l.take i)
      rw [hL] at hok2
      obtain ⟨⟨k1, k2, k3⟩, k4⟩ := hok2
      simp only [List.length_take] at k3 k4
      have hPl : r'.P.length ≤ 100000 := by omega
      have hLl : L.length ≤ 100000 := by omega
      generalize l[i] = q at *
      obtain ⟨mk, tm, ky, vl, lb⟩ := q
      repeat' (first | (refine rG 3 [0, 5, 8, 9, 10, 11] ?_; ((try (refine wK ?_; intro _)))) | (refine ex_regk (id := 4) (ts := [0, 5, 7, 8, 9, 10]) ?_; ((try (refine o_index (by decide) rfl rfl (by first | decide | assumption | omega) (by first | decide | assumption | omega) ?_)) <;> (try (refine o_load_ra (vs := inc (mk, tm, ky, vl, lb)) (by decide) rfl hv ?_)) <;> (try ((refine o_alloc_a (by decide) (fun b7 => ?_)))) <;> (try (first | refine o_store_a rfl rfl rfl rfl rfl ?_ | refine o_store_oa rfl rfl rfl (Nat.succ_pos _) rfl (by assumption) ?_)) <;> (try (refine ops_nilk ?_; intro _)) <;> (try ((first | refine keep_cons (v := .pointer _) rfl ?_ | refine keep_cons (v := _) rfl ?_) <;> (first | refine keep_cons (v := .slice _ _ _) rfl ?_ | refine keep_cons (v := _) rfl ?_) <;> (first | refine keep_cons (v := .pointer _) rfl ?_ | refine keep_cons (v := _) rfl ?_) <;> (first | refine keep_cons (v := .slice _ _ _) rfl ?_ | refine keep_cons (v := _) rfl ?_) <;> (first | refine keep_cons (v := .int _ _) rfl ?_ | refine keep_cons (v := _) rfl ?_) <;> (first | refine keep_cons (v := .int _ _) rfl ?_ | refine keep_cons (v := _) rfl ?_))) <;> (try refine keep_nil ?_))) | refine wC ?_ | (refine ex_split rfl ?_ ?_ <;> intro hc))
      refine Ex.ent ?_ (ent_clL (b := b7) (l' := inc (mk, tm, ky, vl, lb)) rfl)
      cases mk with
      | false =>
        have hs : rnIn r' (false, tm, ky, vl, lb) = (rnEvent r' (tm, ky, vl, lb), []) := rfl
        rw [hs] at hsn
        rw [List.append_nil] at hsn
        repeat' (first | (refine rG 5 [0, 5, 7, 8, 9, 10, 16] ?_; ((try (refine wK ?_; intro _)))) | (refine ex_regk (id := 6) (ts := [0, 5, 8, 9, 10]) ?_; ((try (first | refine o_mv (v := .pointer _) (by decide) rfl ?_ | refine o_mv (by decide) rfl ?_)) <;> (try (refine o_fieldAddr' (by decide) rfl ?_)) <;> (try (refine o_load_a (vs := R.ec (tm, ky, vl, lb)) (by decide) rfl rfl ?_)) <;> (try (refine o_callH (ruEvent rb pb mb oa ocp r' (tm, ky, vl, lb) k1) (by first | exact True.intro | (show _ < _; decide)) rfl rfl (fun _ _ => ?_))) <;> (try (refine ops_nilk ?_; intro _)) <;> (try ((first | refine keep_cons (v := .pointer _) rfl ?_ | refine keep_cons (v := _) rfl ?_) <;> (first | refine keep_cons (v := .slice _ _ _) rfl ?_ | refine keep_cons (v := _) rfl ?_) <;> (first | refine keep_cons (v := .slice _ _ _) rfl ?_ | refine keep_cons (v := _) rfl ?_) <;> (first | refine keep_cons (v := .int _ _) rfl ?_ | refine keep_cons (v := _) rfl ?_) <;> (first | refine keep_cons (v := .int _ _) rfl ?_ | refine keep_cons (v := _) rfl ?_))) <;> (try refine keep_nil ?_))) | (refine rG 9 [0, 5, 8, 9, 10] ?_; ((try (refine wK ?_; intro _)))) | refine wC ?_ | (refine ex_split rfl ?_ ?_ <;> intro hc))
        rw [ei]
        refine ⟨l.length - (i + 1), by omega, _, ?_, _, i + 1, _, L, ra, rc, rfl, rfl, hsn, by omega, hrc, rfl⟩
        exact ent_take
      | true =>
        obtain ⟨m, lt, s, ⟨ops, sz, sl, ag, sk, fd⟩, P⟩ := r'
        have hPl : P.length ≤ 100000 := hPl
        have k2 : (P.map (·.1)).Nodup := k2
        have hadv := clAdv rb m lt s tm (.pointer (some ⟨pb, 0, none⟩)) (.slice oa ops.length ocp) (.int .i64 sz) (.int .i64 sl) (.int .i64 ag) (.int .i64 sk) (.int .i64 fd) 65
        refine Ex.ent (H' := cl true rb [.int .i64 m, .int .i64 lt, .int .i64 s, .pointer (some ⟨pb, 0, none⟩), .slice oa ops.length ocp, .int .i64 sz, .int .i64 sl, .int .i64 ag, .int .i64 sk, .int .i64 fd] 65 (0, 0) * (rs oa (ops.flatMap oc) * (PT pb mb sz sl ag P * (cl true b7 (inc (true, tm, ky, vl, lb)) 39 (0, 0) * (ow 67 5 ra L.length rc (L.flatMap rwc) * H))))) ?_ (Ent.trans (B := cl true b7 (inc (true, tm, ky, vl, lb)) 39 (0, 0) * (ow 67 5 ra L.length rc (L.flatMap rwc) * (cl true rb [.int .i64 m, .int .i64 lt, .int .i64 s, .pointer (some ⟨pb, 0, none⟩), .slice oa ops.length ocp, .int .i64 sz, .int .i64 sl, .int .i64 ag, .int .i64 sk, .int .i64 fd] 65 (0, 0) * (rs oa (ops.flatMap oc) * PT pb mb sz sl ag P) * H))) (Ent.ofEq rfl) ent_take)
        cases hA : adF tm m with
        | false =>
          rw [hA] at hadv
          have hs : rnIn ⟨m, lt, s, (ops, sz, sl, ag, sk, fd), P⟩ (true, tm, ky, vl, lb) = (⟨m, lt, s, (ops, sz, sl, ag, sk, fd), P⟩, []) := by unfold rnIn; simp only [if_true]; rw [hA]; rfl
          rw [hs, List.append_nil] at hsn
          repeat' (first | (refine rG 5 [0, 5, 7, 8, 9, 10, 16] ?_; ((try (refine wK ?_; intro _)))) | (refine rA 7 [0, 5, 8, 9, 10, 27] 7 ?_; (refine os_but 0 rfl ?_); ((refine lQ 0 ?_; ((refine lQ 1 ?_; ((refine lQ 2 ?_; ((refine lQ 3 ?_; ((refine lQ 4 ?_; ((refine lQ 5 ?_; ((refine oN 6 ?_ <;> (refine o_callB (by first | exact True.intro | (show _ < _; decide)) rfl rfl hadv (fun _ _ => ?_)) <;> (refine os_nil ?_) <;> ((refine dK ?_; intro _))))))))))))))))) | (refine rG 9 [0, 5, 8, 9, 10] ?_; ((try (refine wK ?_; intro _)))) | refine wC ?_ | (refine ex_split rfl ?_ ?_ <;> intro hc))
          all_goals
            rw [ei]
            refine ⟨l.length - (i + 1), by omega, _, ?_, _, i + 1, ⟨m, lt, s, (ops, sz, sl, ag, sk, fd), P⟩, L, ra, rc, rfl, rfl, hsn, by omega, hrc, rfl⟩
            exact Ent.trans (ent_clL (b := rb) (l' := [.int .i64 m, .int .i64 lt, .int .i64 s, .pointer (some ⟨pb, 0, none⟩), .slice oa ops.length ocp, .int .i64 sz, .int .i64 sl, .int .i64 ag, .int .i64 sk, .int .i64 fd]) rfl) ent_take
        | true =>
          rw [hA] at hadv
          have hs : rnIn ⟨m, lt, s, (ops, sz, sl, ag, sk, fd), P⟩ (true, tm, ky, vl, lb) = (⟨tm, lt, s, (ops, sz, sl, ag, sk, fd), clP sz tm P⟩, clR sz tm P) := by unfold rnIn; simp only [if_true]; rw [hA]; rfl
          rw [hs] at hsn
          have hcr := clR_len sz tm P
          repeat' (first | (refine rG 5 [0, 5, 7, 8, 9, 10, 16] ?_; ((try (refine wK ?_; intro _)))) | (refine rA 7 [0, 5, 8, 9, 10, 27] 7 ?_; (refine os_but 0 rfl ?_); ((refine lQ 0 ?_; ((refine lQ 1 ?_; ((refine lQ 2 ?_; ((refine lQ 3 ?_; ((refine lQ 4 ?_; ((refine lQ 5 ?_; ((refine oN 6 ?_ <;> (refine o_callB (by first | exact True.intro | (show _ < _; decide)) rfl rfl hadv (fun _ _ => ?_)) <;> (refine os_nil ?_) <;> ((refine dK ?_; intro _))))))))))))))))) | refine wC ?_ | (refine ex_split rfl ?_ ?_ <;> intro hc))
          all_goals
            refine Ex.ent ?_ (ent_clL (b := rb) (l' := [.int .i64 tm, .int .i64 lt, .int .i64 s, .pointer (some ⟨pb, 0, none⟩), .slice oa ops.length ocp, .int .i64 sz, .int .i64 sl, .int .i64 ag, .int .i64 sk, .int .i64 fd]) rfl)
            repeat' (first | (refine rA 8 [0, 5, 8, 9, 10] 13 ?_; (refine os_butP (PT pb mb sz sl ag P * ow 67 5 ra L.length rc (L.flatMap rwc)) ?_); ((refine lQ 0 ?_; ((refine lQ 1 ?_; ((refine lQ 2 ?_; ((refine lQ 3 ?_; ((refine lQ 4 ?_; ((refine lQ 5 ?_; ((refine lQ 6 ?_; ((refine lQ 7 ?_; ((refine lC (v := ?_) 8 ?_ ?_; rotate_left; (focus ((refine o_load_a (vs := [.int .i64 tm, .int .i64 lt, .int .i64 s]) (by decide) rfl rfl ?_) <;> exact lL)); ((refine lC (v := ?_) 9 ?_ ?_; rotate_left; (focus ((refine o_call (clMark tm lt s) (by first | exact True.intro | (show _ < _; decide)) rfl rfl (fun _ _ => ?_)) <;> exact lL)); ((refine oN 10 ?_ <;> ((refine o_callH (pnClose pb mb sz sl ag tm P hPl k2) (by first | exact True.intro | (show _ < _; decide)) rfl rfl (fun y hy => ?_); obtain ⟨ca, cc⟩ := y)) <;> (refine os_nil ?_) <;> ((refine oN 11 ?_ <;> (refine o_appendT (cells := rwc) (xs := L) (ys := clR sz tm P) rwc_len rwc_one (by decide) rfl rfl rfl rfl rfl (by omega) (by simp only [maxLen]; omega) (fun a' cap' hc' => ?_)) <;> (refine os_nil ?_) <;> ((refine lQ 12 ?_; ((refine dK ?_; intro _))))))))))))))))))))))))))))) | refine wC ?_ | (refine ex_split rfl ?_ ?_ <;> intro hc))
            all_goals
              repeat' (first | (refine rG 9 [0, 5, 8, 9, 10] ?_; ((try (refine wK ?_; intro _)))) | refine wC ?_ | (refine ex_split rfl ?_ ?_ <;> intro hc))
              rw [ei]
              refine ⟨l.length - (i + 1), by omega, _, ?_, _, i + 1, ⟨tm, lt, s, (ops, sz, sl, ag, sk, fd), clP sz tm P⟩, L ++ clR sz tm P, a', cap', rfl, rfl, hsn, by omega, hc', rfl⟩
              exact ent_take
    · have hil : i = l.length := by omega
      subst hil
      have hd : decide ((l.length : Int) < (l.length : Int)) = false := by simp
      rw [List.take_length] at hL
      rw [hL]
      repeat' (first | (refine rG 3 [0, 5, 8, 9, 10, 11] ?_; ((try (refine wK ?_; intro _)))) | (refine rG 10 [4] ?_; ((try (refine wK ?_; intro _)))) | refine wC ?_ | (refine ex_split rfl ?_ ?_ <;> intro hc))
      exact fin (.inr rfl) (ra, rc) (resl1 rfl (rv_tmp rfl)) hrc (Ent.refl _)
set_option maxHeartbeats 16000000 in
theorem ruTwin {X H : HP} (rb pb mb : Nat) (oa : Option Addr) (ocp : Nat) (r : Ru) [t : Take (RR rb pb mb oa ocp r) X H] (hl : r.pp.1.length ≤ 100) :
    Spec Tryz.prog 72 [.pointer (some ⟨rb, 0, none⟩)] X (X := Nat × Nat × Nat × Option Addr × Nat) (fun y => .pointer (some ⟨y.1, 0, none⟩)) (fun _ => True)
      (fun y => RR y.1 y.2.1 y.2.2.1 y.2.2.2.1 y.2.2.2.2 r * X) := by
  obtain ⟨m, lt, s, ⟨ops, sz, sl, ag, sk, fd⟩, P⟩ := r
  have hl : ops.length ≤ 100 := hl
  rw [t.eq, RR_eq, sep_assoc, sep_assoc]
  refine spec_of Tryz.func72 rfl Tryz.ntmps72 rfl ?_
  repeat' (first | (refine rG 0 [0] ?_; ((try (refine wK ?_; intro _)))) | (refine ex_regk (id := 1) (ts := [0, 3]) ?_; ((try (first | refine o_mv (v := .pointer _) (by decide) rfl ?_ | refine o_mv (by decide) rfl ?_)) <;> (try (first | refine o_nil (by decide) rfl ?_ | refine o_nil_func (by decide) rfl ?_)) <;> (try (refine o_load_a (vs := [.int .i64 m, .int .i64 lt, .int .i64 s, .pointer (some ⟨pb, 0, none⟩), .slice oa ops.length ocp, .int .i64 sz, .int .i64 sl, .int .i64 ag, .int .i64 sk, .int .i64 fd]) (by decide) rfl rfl ?_)) <;> (try ((refine o_alloc_a (by decide) (fun b3 => ?_)))) <;> (try (first | refine o_store_a rfl rfl rfl rfl rfl ?_ | refine o_store_oa rfl rfl rfl (Nat.succ_pos _) rfl (by assumption) ?_)) <;> (try (refine ops_nilk ?_; intro _)) <;> (try ((first | refine keep_cons (v := .pointer _) rfl ?_ | refine keep_cons (v := _) rfl ?_) <;> (first | refine keep_cons (v := .pointer _) rfl ?_ | refine keep_cons (v := _) rfl ?_))) <;> (try refine keep_nil ?_))) | refine wC ?_ | (refine ex_split rfl ?_ ?_ <;> intro hc))
  refine Ex.ent ?_ (ent_clL (b := b3) (l' := [.int .i64 m, .int .i64 lt, .int .i64 s, .pointer (some ⟨pb, 0, none⟩), .slice oa ops.length ocp, .int .i64 sz, .int .i64 sl, .int .i64 ag, .int .i64 sk, .int .i64 fd]) rfl)
  repeat' (first | (refine rG 2 [0, 3] ?_; ((try refine wO ?_) <;> (try ((refine o_callH (pnCopy pb mb sz sl ag (TM ag P)) (by first | exact True.intro | (show _ < _; decide)) rfl rfl (fun y hy => ?_); obtain ⟨pb2, mb2⟩ := y))) <;> (try (refine wK ?_; intro _)))) | (refine rG 3 [3] ?_; ((try refine wO ?_) <;> (try ((refine o_callH (cloneO _ oa ops ocp (by omega)) (by first | exact True.intro | (show _ < _; decide)) rfl rfl (fun y hy => ?_); obtain ⟨oa2, ocp2⟩ := y))) <;> (try (refine wK ?_; intro _)))) | (refine rG 4 [2] ?_; ((try (refine wK ?_; intro _)))) | refine wC ?_ | (refine ex_split rfl ?_ ?_ <;> intro hc))
  refine fin (.inr rfl) (b3, pb2, mb2, oa2, ocp2) (resl1 rfl (rv_tmp rfl)) trivial ?_
  refine Ent.trans (ent_fz (a := oa2) (m := ops.length) (cap := ocp2) (l := ops.flatMap oc) (el := 159) (sz := 2)) ?_
  refine Ent.trans (ent_clL (b := b3) (l' := [.int .i64 m, .int .i64 lt, .int .i64 s, .pointer (some ⟨pb2, 0, none⟩), .slice oa2 ops.length ocp2, .int .i64 sz, .int .i64 sl, .int .i64 ag, .int .i64 sk, .int .i64 fd]) rfl) ?_
  show Ent _ (RR b3 pb2 mb2 oa2 ocp2 ⟨m, lt, s, (ops, sz, sl, ag, sk, fd), P⟩ * _)
  exact ent_take
end Go.Proofs.YtcelailgedndnaaGreatS
namespace Go.Proofs.YtcelailgedndnaaGreatS
open Go.RowKit
set_option linter.unusedVariables false
set_option linter.unusedSimpArgs false
/-- Where a cell's parts lie. -/
structure Ca where
  rb : Nat
  pb : Nat
  mb : Nat
  oa : Option Addr
  ocp : Nat
  qa : Option Addr
  qc : Nat
  ra : Option Addr
  rc : Nat
  ta : Option Addr
  tc : Nat
def cec (c : Cd) (y : Ca) : List Value := [.int .i64 c.left, .int .i64 c.spent, .int .i64 c.refused, .slice y.qa c.q.length y.qc, .pointer (some ⟨y.rb, 0, none⟩), .int .i64 c.id, .slice y.ra c.rows.length y.rc, .slice y.ta c.taken.length y.tc]
theorem evR_lb (t k v : Int) (b : BitVec 64) : evR (t, k, v, b) = (decide (t ≥ 0) && decide (t ≤ 1099511627776) && decide (k ≥ 0) && decide (k ≤ 255) && (U b != 0)) := by
  have : (U b != 0) = !decide (b = 0) := by
    rw [show (0 : Int) = U 0 from rfl]
    show (!(U b == U 0)) = _
    rw [U_eq]
  rw [this]; rfl
set_option linter.unusedVariables false
set_option linter.unusedSimpArgs false
attribute [local irreducible] Ops Ex Spec T V QO OA Rn OS
def CR (b : Nat) (y : Ca) (c : Cd) : HP := cl true b (cec c y) 60 (0, 0) * (RR y.rb y.pb y.mb y.oa y.ocp c.run * (rs y.qa (c.q.flatMap inc) * (ow 67 5 y.ra c.rows.length y.rc (c.rows.flatMap rwc) * ow 39 5 y.ta c.taken.length y.tc (c.taken.flatMap inc))))
/-- A cell in memory. -/
def CE (b : Nat) (c : Cd) : HP := exh fun y : Ca => pu (c.q.length ≤ y.qc ∧ c.rows.length ≤ y.rc ∧ c.taken.length ≤ y.tc) * CR b y c
theorem ce_open {b : Nat} {le sp re : Int} {q : List In} {run : Ru} {id : Int} {rows : List Rw} {taken : List In} {H : HP} {f : FuncId} {args : List Value} {X : Type} {val : X → Value} {pr : X → Prop} {res : X → HP}
    (h : ∀ rb pb mb oa ocp qa qc ra rc ta tc, q.length ≤ qc → rows.length ≤ rc → taken.length ≤ tc → Spec Tryz.prog f args (cl true b [.int .i64 le, .int .i64 sp, .int .i64 re, .slice qa q.length qc, .pointer (some ⟨rb, 0, none⟩), .int .i64 id, .slice ra rows.length rc, .slice ta taken.length tc] 60 (0, 0) * (RR rb pb mb oa ocp run * (rs qa (q.flatMap inc) * (ow 67 5 ra rows.length rc (rows.flatMap rwc) * (ow 39 5 ta taken.length tc (taken.flatMap inc) * H))))) val pr res) :
    Spec Tryz.prog f args (CE b ⟨le, sp, re, q, run, id, rows, taken⟩ * H) val pr res := by
  refine Spec.exh fun y => ?_
  rw [sep_assoc]
  refine Spec.pu fun hy => ?_
  obtain ⟨rb, pb, mb, oa, ocp, qa, qc, ra, rc, ta, tc⟩ := y
  have := h rb pb mb oa ocp qa qc ra rc ta tc hy.1 hy.2.1 hy.2.2
  refine this.ent (Ent.ofEq ?_)
  unfold CR
  simp only [sep_assoc]
  rfl
theorem ce_mk {b : Nat} {le sp re : Int} {q : List In} {run : Ru} {id : Int} {rows : List Rw} {taken : List In} {H : HP} {rb pb mb : Nat} {oa : Option Addr} {ocp : Nat} {qa : Option Addr} {qc : Nat} {ra : Option Addr} {rc : Nat} {ta : Option Addr} {tc : Nat} (h1 : q.length ≤ qc) (h2 : rows.length ≤ rc) (h3 : taken.length ≤ tc) :
    Ent (cl true b [.int .i64 le, .int .i64 sp, .int .i64 re, .slice qa q.length qc, .pointer (some ⟨rb, 0, none⟩), .int .i64 id, .slice ra rows.length rc, .slice ta taken.length tc] 60 (0, 0) * (RR rb pb mb oa ocp run * (rs qa (q.flatMap inc) * (ow 67 5 ra rows.length rc (rows.flatMap rwc) * (ow 39 5 ta taken.length tc (taken.flatMap inc) * H))))) (CE b ⟨le, sp, re, q, run, id, rows, taken⟩ * H) := by
  have e : cl true b [.int .i64 le, .int .i64 sp, .int .i64 re, .slice qa q.length qc, .pointer (some ⟨rb, 0, none⟩), .int .i64 id, .slice ra rows.length rc, .slice ta taken.length tc] 60 (0, 0) * (RR rb pb mb oa ocp run * (rs qa (q.flatMap inc) * (ow 67 5 ra rows.length rc (rows.flatMap rwc) * (ow 39 5 ta taken.length tc (taken.flatMap inc) * H)))) = CR b ⟨rb, pb, mb, oa, ocp, qa, qc, ra, rc, ta, tc⟩ ⟨le, sp, re, q, run, id, rows, taken⟩ * H := by
    unfold CR; simp only [sep_assoc]; rfl
  rw [e]
  exact (Ent.trans (Ent.pure ⟨h1, h2, h3⟩) (Ent.ex (A := fun y : Ca => pu (q.length ≤ y.qc ∧ rows.length ≤ y.rc ∧ taken.length ≤ y.tc) * CR b y ⟨le, sp, re, q, run, id, rows, taken⟩) ⟨rb, pb, mb, oa, ocp, qa, qc, ra, rc, ta, tc⟩)).frame H
theorem evRight (e : Ev) {v : Bool} (h : evR e = v) : Spec Tryz.prog 31 [.agg (R.ec e).toArray] 1 (X := Unit) (fun _ => .bool v) (fun _ => True) (fun _ => 1) := by
  obtain ⟨tm, ky, vl, lb⟩ := e
  subst h
  rw [evR_lb]
  refine spec_of Tryz.func31 rfl Tryz.ntmps31 rfl ?_
  repeat' (first | (refine rG 0 [1] ?_; ((try ((refine o_box (by decide) (v := .agg (List.toArray _)) rfl rfl (fun _ => ?_)))) <;> (try (refine wK ?_; intro _)))) | (refine rG 1 [2] ?_; ((try refine wO ?_) <;> (repeat' (refine g_split rfl (by decide) rfl (by decide) ?_ ?_ <;> intro hc <;> (try refine wO ?_))) <;> (try (refine wK ?_; intro _)))) | refine wC ?_ | (refine ex_split rfl ?_ ?_ <;> intro hc))
  all_goals exact fin (.inr rfl) () (resl1 rfl (rv_tmp (by simp only [*]; rfl))) trivial (Ent.toOne _)
theorem ceOwn (b : Nat) (v0 v1 v2 v3 v4 v6 v7 : Value) (id : Int) (i : In) (t) (h0 : 0 ≤ id) (h8 : id < 8) : Spec Tryz.prog 101 [.pointer (some ⟨b, 0, none⟩), .agg (inc i).toArray] (cl true b [v0, v1, v2, v3, v4, .int .i64 id, v6, v7] t (0, 0)) (X := Unit) (fun _ => .tuple #[.agg (inc (ownI id i).1).toArray, .bool (ownI id i).2]) (fun _ => True)
    (fun _ => cl true b [v0, v1, v2, v3, v4, .int .i64 id, v6, v7] t (0, 0)) := by
  obtain ⟨mk, tm, ky, vl, lb⟩ := i
  cases mk with
  | true =>
    have e1 : ownI id (true, tm, ky, vl, lb) = ((true, (tm, 0, 0, 0)), decide (tm ≥ 1) && decide (tm ≤ 1099512676352)) := rfl
    rw [e1]
    refine spec_of Tryz.func101 rfl Tryz.ntmps101 rfl ?_
    repeat' (first | (refine rG 0 [0, 3, 4] ?_; ((try ((refine o_box (by decide) (v := .agg (List.toArray _)) rfl rfl (fun b3 => ?_)))) <;> (try ((refine o_alloc_a (by decide) (fun b4 => ?_)))) <;> (try (refine wK ?_; intro _)))) | (refine rG 1 [0, 3, 4, 8] ?_; ((try (refine wK ?_; intro _)))) | (refine rG 2 [4, 6] ?_; ((try (refine wK ?_; intro _)))) | (refine rG 3 [4, 5] ?_; ((try refine wO ?_) <;> (repeat' (refine g_split rfl (by decide) rfl (by decide) ?_ ?_ <;> intro hc <;> (try refine wO ?_))) <;> (try (refine wK ?_; intro _)))) | refine wC ?_ | (refine ex_split rfl ?_ ?_ <;> intro hc))
    all_goals exact fin (.inr rfl) () (resl2 rfl (rv_cell_a rfl rfl) (rv_tmp (by simp only [*]; rfl))) trivial ent_take
  | false =>
    have e1 : ownI id (false, tm, ky, vl, lb) = ((false, (tm, ky, vl, bt id)), evR (tm, ky, vl, bt id)) := rfl
    have e25 := bt_U id h0 (by omega)
    rw [e1]
    refine spec_of Tryz.func101 rfl Tryz.ntmps101 rfl ?_
    repeat' (first | (refine rG 0 [0, 3, 4] ?_; ((try ((refine o_box (by decide) (v := .agg (List.toArray _)) rfl rfl (fun b3 => ?_)))) <;> (try ((refine o_alloc_a (by decide) (fun b4 => ?_)))) <;> (try (refine wK ?_; intro _)))) | (refine rG 1 [0, 3, 4, 8] ?_; ((try (refine wK ?_; intro _)))) | (refine rG 4 [3, 4] ?_; ((try (refine wK ?_; intro _)))) | refine wC ?_ | (refine ex_split rfl ?_ ?_ <;> intro hc))
    rw [e25]
    refine Ex.ent ?_ (ent_clL (b := b3) (l' := inc (false, tm, ky, vl, bt id)) rfl)
    repeat' (first | (refine rA 5 [4, 5] 6 ?_; (refine os_but 4 rfl ?_); ((refine lC (v := ?_) 0 ?_ ?_; rotate_left; (focus ((refine o_load_a (vs := inc (false, tm, ky, vl, bt id)) (by decide) rfl rfl ?_) <;> exact lL)); ((refine lQ 1 ?_; ((refine lC (v := ?_) 2 ?_ ?_; rotate_left; (focus ((refine o_load_a (vs := R.ec (tm, ky, vl, bt id)) (by decide) rfl rfl ?_) <;> exact lL)); ((refine lC (v := ?_) 3 ?_ ?_; rotate_left; (focus ((refine o_call (evRight (tm, ky, vl, bt id) rfl) (by first | exact True.intro | (show _ < _; decide)) rfl rfl (fun _ _ => ?_)) <;> exact lL)); ((refine oN 4 ?_ <;> (refine wO ?_) <;> (refine os_nil ?_) <;> ((refine lQ 5 ?_; ((refine dK ?_; intro _))))))))))))))) | refine wC ?_ | (refine ex_split rfl ?_ ?_ <;> intro hc))
    all_goals exact fin (.inr rfl) () (resl2 rfl (rv_cell_a rfl rfl) (rv_tmp rfl)) trivial ent_take
theorem ceRefused (b : Nat) (x y r e : Int) (v3 v4 v5 v6 v7 : Value) (t) : Spec Tryz.prog 102 [.pointer (some ⟨b, 0, none⟩), .int .i64 e] (cl true b [.int .i64 x, .int .i64 y, .int .i64 r, v3, v4, v5, v6, v7] t (0, 0)) (X := Unit) (fun _ => .int .i64 e) (fun _ => True)
    (fun _ => cl true b [.int .i64 x, .int .i64 y, .int .i64 (IntKind.i64.wrap (r + 1)), v3, v4, v5, v6, v7] t (0, 0)) := by
  refine spec_of Tryz.func102 rfl Tryz.ntmps102 rfl ?_
  repeat' (first | (refine rG 0 [0, 1] ?_; ((try (refine wK ?_; intro _)))) | (refine rG 1 [1] ?_; ((try refine wO ?_) <;> (try (refine o_callB (by first | exact True.intro | (show _ < _; decide)) rfl rfl (quRefuse _ _ _ _ _ _ _ _ _ _) (fun _ _ => ?_))) <;> (try (refine wK ?_; intro _)))) | (refine rG 2 [4] ?_; ((try (refine wK ?_; intro _)))) | refine wC ?_ | (refine ex_split rfl ?_ ?_ <;> intro hc))
  exact fin (.inr rfl) () (resl1 rfl (rv_tmp rfl)) trivial ent_take
end Go.Proofs.YtcelailgedndnaaGreatS
namespace Go.Proofs.YtcelailgedndnaaGreatS
open Go.RowKit
set_option linter.unusedVariables false
set_option linter.unusedSimpArgs false
/-- A cell that may be, with at most n inputs in all. -/
structure CdOk (c : Cd) (n : Nat) : Prop where
  ops : c.run.pp.1.length ≤ 100
  nod : (c.run.P.map (·.1)).Nodup
  pan : c.rows.length + c.run.P.length ≤ 8 * c.taken.length
  ins : c.taken.length + c.q.length ≤ n
  l0 : 0 ≤ c.left
  l1 : c.left ≤ 4000
  i0 : 0 ≤ c.id
  i8 : c.id < 8
set_option linter.unusedVariables false
set_option linter.unusedSimpArgs false
attribute [local irreducible] Ops Ex Spec T V QO OA Rn OS
set_option maxHeartbeats 8000000 in
theorem ceNew (H : HP) (id most : Int) (p : Pp) (a : Option Addr) (cap : Nat) [hr : RdC H a (p.1.flatMap oc)] (hp : pir p = true) (hl : p.1.length ≤ 100) (h0 : 0 ≤ id) (h8 : id < 8) : Spec Tryz.prog 94 [.int .i64 id, .int .i64 most, .agg (ppc a cap p).toArray] H (X := Nat) (fun y => .pointer (some ⟨y, 0, none⟩)) (fun _ => True)
    (fun y => CE y (newCd id most p) * H) := by
  have hp2 : R.pipr p.1 p.2.1 p.2.2.1 p.2.2.2.1 p.2.2.2.2.1 p.2.2.2.2.2 = true := hp
  have hpr := fun (H' : HP) (h : RdC H' a (p.1.flatMap oc)) => R.pright H' a p.1 p.1.length cap p.2.1 p.2.2.1 p.2.2.2.1 p.2.2.2.2.1 p.2.2.2.2.2 (hr := h) rfl rfl (by omega)
  rw [hp2] at hpr
  have d0 : decide (id < 0) = false := decide_eq_false (by omega)
  have d8 : decide (id ≥ 8) = false := decide_eq_false (by omega)
  refine spec_of Tryz.func94 rfl Tryz.ntmps94 rfl ?_
  repeat' (first | (refine rG 0 [0, 1, 5] ?_; ((try ((refine o_box (by decide) (v := .agg (ppc a cap p).toArray) rfl rfl (fun b5 => ?_)))) <;> (try (refine wK ?_; intro _)))) | (refine ex_regk (id := 1) (ts := [0, 1, 5, 17]) ?_; ((try (first | refine o_mv (v := .int _ _) (by decide) rfl ?_ | refine o_mv (by decide) rfl ?_)) <;> (try (refine o_int (by decide) rfl rfl rfl ?_)) <;> (try (first | refine o_mv (v := .bool _) (by decide) rfl ?_ | refine o_mv (by decide) rfl ?_)) <;> (try (first | refine g_no rfl (by decide) rfl (by decide) ?_ | refine g_undef rfl rfl (by decide) ?_ | (refine g_yes rfl (by decide) rfl ?_; (first | refine o_mv (v := .int _ _) (by decide) rfl ?_ | refine o_mv (by decide) rfl ?_)) | refine g_noT rfl (by decide) rfl (by assumption) (by decide) ?_ | (refine g_yesF rfl (by decide) rfl (by assumption) ?_; (first | refine o_mv (v := .int _ _) (by decide) rfl ?_ | refine o_mv (by decide) rfl ?_)) | ((refine g_split rfl (by decide) rfl (by decide) ?_ ?_ <;> intro hc); (first | refine o_mv (v := .int _ _) (by decide) rfl ?_ | refine o_mv (by decide) rfl ?_)))) <;> (try (first | refine g_no rfl (by decide) rfl (by decide) ?_ | refine g_undef rfl rfl (by decide) ?_ | (refine g_yes rfl (by decide) rfl ?_; (refine o_int (by decide) rfl rfl rfl ?_)) | refine g_noT rfl (by decide) rfl (by assumption) (by decide) ?_ | (refine g_yesF rfl (by decide) rfl (by assumption) ?_; (refine o_int (by decide) rfl rfl rfl ?_)) | ((refine g_split rfl (by decide) rfl (by decide) ?_ ?_ <;> intro hc); (refine o_int (by decide) rfl rfl rfl ?_)))) <;> (try (first | refine o_pick_t (v := .bool _) (by decide) rfl rfl ?_ | refine o_pick_f (v := .bool _) (by decide) rfl rfl ?_)) <;> (try (first | refine o_mv (v := .bool _) (by decide) rfl ?_ | refine o_mv (by decide) rfl ?_)) <;> (try (first | refine g_no rfl (by decide) rfl (by decide) ?_ | refine g_undef rfl rfl (by decide) ?_ | (refine g_yes rfl (by decide) rfl ?_; (refine o_load_a (vs := ppc a cap p) (by decide) rfl rfl ?_)) | refine g_noT rfl (by decide) rfl (by assumption) (by decide) ?_ | (refine g_yesF rfl (by decide) rfl (by assumption) ?_; (refine o_load_a (vs := ppc a cap p) (by decide) rfl rfl ?_)) | ((refine g_split rfl (by decide) rfl (by decide) ?_ ?_ <;> intro hc); (refine o_load_a (vs := ppc a cap p) (by decide) rfl rfl ?_)))) <;> (try (first | refine g_no rfl (by decide) rfl (by decide) ?_ | refine g_undef rfl rfl (by decide) ?_ | (refine g_yes rfl (by decide) rfl ?_; (refine o_callH (hpr _ inferInstance) (by first | exact True.intro | (show _ < _; decide)) rfl rfl (fun _ _ => ?_))) | refine g_noT rfl (by decide) rfl (by assumption) (by decide) ?_ | (refine g_yesF rfl (by decide) rfl (by assumption) ?_; (refine o_callH (hpr _ inferInstance) (by first | exact True.intro | (show _ < _; decide)) rfl rfl (fun _ _ => ?_))) | ((refine g_split rfl (by decide) rfl (by decide) ?_ ?_ <;> intro hc); (refine o_callH (hpr _ inferInstance) (by first | exact True.intro | (show _ < _; decide)) rfl rfl (fun _ _ => ?_))))) <;> (try (first | refine g_no rfl (by decide) rfl (by decide) ?_ | refine g_undef rfl rfl (by decide) ?_ | (refine g_yes rfl (by decide) rfl ?_; (refine o_not (by decide) rfl ?_)) | refine g_noT rfl (by decide) rfl (by assumption) (by decide) ?_ | (refine g_yesF rfl (by decide) rfl (by assumption) ?_; (refine o_not (by decide) rfl ?_)) | ((refine g_split rfl (by decide) rfl (by decide) ?_ ?_ <;> intro hc); (refine o_not (by decide) rfl ?_)))) <;> (try (first | refine o_pick_t (v := .bool _) (by decide) rfl rfl ?_ | refine o_pick_f (v := .bool _) (by decide) rfl rfl ?_)) <;> (try (refine ops_nilk ?_; intro _)) <;> (try ((first | refine keep_cons (v := .int _ _) rfl ?_ | refine keep_cons (v := _) rfl ?_) <;> (first | refine keep_cons (v := .int _ _) rfl ?_ | refine keep_cons (v := _) rfl ?_) <;> (first | refine keep_cons (v := .pointer _) rfl ?_ | refine keep_cons (v := _) rfl ?_) <;> (first | refine keep_cons (v := .bool _) rfl ?_ | refine keep_cons (v := _) rfl ?_))) <;> (try refine keep_nil ?_))) | refine wC ?_ | (refine ex_split rfl ?_ ?_ <;> intro hc))
  repeat' (first | (refine rA 3 [6] 8 ?_; (refine os_all ?_); ((refine lQ 0 ?_; ((refine lC (v := ?_) 1 ?_ ?_; rotate_left; (focus ((refine o_call (quOf most) (by first | exact True.intro | (show _ < _; decide)) rfl rfl (fun _ _ => ?_)) <;> exact lL)); ((refine lC (v := ?_) 2 ?_ ?_; rotate_left; (focus ((refine o_load_a (vs := ppc a cap p) (by decide) rfl rfl ?_) <;> exact lL)); ((refine lQ 4 ?_; ((refine oN 3 ?_ <;> ((refine o_callH (ruNew _ p a cap hp hl) (by first | exact True.intro | (show _ < _; decide)) rfl rfl (fun y hy => ?_); obtain ⟨rb, pb, mb, oa, ocp⟩ := y)) <;> (refine os_nil ?_) <;> ((refine lQ 5 ?_; ((refine oN 6 ?_ <;> ((refine o_box (by decide) (v := .agg (List.toArray _)) rfl rfl (fun _ => ?_))) <;> (refine os_nil ?_) <;> ((refine lQ 7 ?_; ((refine dK ?_; intro _))))))))))))))))))) | refine wC ?_ | (refine ex_split rfl ?_ ?_ <;> intro hc))
  all_goals
    rename_i bx _
    refine fin (.inr rfl) bx (resl1 rfl (rv_tmp rfl)) trivial ?_
    refine Ent.trans (ent_clL (b := bx) (l' := [.int .i64 (if (0 : Int) > most then 0 else most), .int .i64 0, .int .i64 0, .slice none 0 0, .pointer (some ⟨rb, 0, none⟩), .int .i64 id, .slice none 0 0, .slice none 0 0]) rfl) ?_
    refine Ent.trans (Ent.trans (rs_empty none _) (Ent.trans (Ent.ow_none 67 5 _) (Ent.ow_none 39 5 _))) ?_
    refine Ent.trans (B := cl true bx [.int .i64 (if (0 : Int) > most then 0 else most), .int .i64 0, .int .i64 0, .slice none 0 0, .pointer (some ⟨rb, 0, none⟩), .int .i64 id, .slice none 0 0, .slice none 0 0] 60 (0, 0) * (RR rb pb mb oa ocp (newRu p) * (rs none [] * (ow 67 5 none 0 0 [] * (ow 39 5 none 0 0 [] * H))))) ent_take ?_
    exact ce_mk (q := []) (rows := []) (taken := []) (qc := 0) (rc := 0) (tc := 0) (Nat.le_refl _) (Nat.le_refl _) (Nat.le_refl _)
theorem sub_inc (i : In) : sub (inc i) 0 5 = some (inc i) := rfl
set_option maxHeartbeats 16000000 in
theorem ceOffer {X H : HP} (b : Nat) (c : Cd) (room : Int) (i : In) [t : Take (CE b c) X H] {n : Nat} (hok : CdOk c n) (hn : n ≤ 10000) :
    Spec Tryz.prog 69 [.pointer (some ⟨b, 0, none⟩), .int .i64 room, .agg (inc i).toArray] X (X := Unit) (fun _ => .int .i64 (offer room i c).2) (fun _ => True) (fun _ => CE b (offer room i c).1 * H) := by
  obtain ⟨le, sp, re, q, run, id, rows, taken⟩ := c
  obtain ⟨_, _, _, k4, k5, k6, k7, k8⟩ := hok
  simp only at k4 k5 k6 k7 k8
  rw [t.eq]
  refine ce_open fun rb pb mb oa ocp qa qc ra rc ta tc h1 h2 h3 => ?_
  have hown := fun t => ceOwn b (.int .i64 le) (.int .i64 sp) (.int .i64 re) (.slice qa q.length qc) (.pointer (some ⟨rb, 0, none⟩)) (.slice ra rows.length rc) (.slice ta taken.length tc) id i t k7 k8
  generalize hO : ownI id i = O at *
  obtain ⟨⟨omk, otm, oky, ovl, olb⟩, ok⟩ := O
  have hload := sub_inc i
  cases ok with
  | false =>
    have he : offer room i ⟨le, sp, re, q, run, id, rows, taken⟩ = (⟨le, sp, IntKind.i64.wrap (re + 1), q, run, id, rows, taken⟩, 1) := by unfold offer refuse; simp only [hO]; rfl
    rw [he]
    refine spec_of Tryz.func69 rfl Tryz.ntmps69 rfl ?_
    repeat' (first | (refine rG 0 [0, 1, 5] ?_; ((try ((refine o_box (by decide) (v := .agg (inc i).toArray) rfl rfl (fun b5 => ?_)))) <;> (try (refine wK ?_; intro _)))) | (refine ex_regk (id := 1) (ts := [0, 1, 7, 8]) ?_; ((try (first | refine o_mv (v := .pointer _) (by decide) rfl ?_ | refine o_mv (by decide) rfl ?_)) <;> (try (refine o_load_a (vs := inc i) (by decide) rfl hload ?_)) <;> (try (refine o_callB (by first | exact True.intro | (show _ < _; decide)) rfl rfl (hown _) (fun _ _ => ?_))) <;> (try (refine o_mv (v := _) (by decide) rfl ?_)) <;> (try (refine o_extract (v := .agg (List.toArray _)) (by decide) rfl rfl ?_)) <;> (try (refine o_extract (v := .bool _) (by decide) rfl rfl ?_)) <;> (try ((refine o_alloc_a (by decide) (fun b7 => ?_)))) <;> (try (first | refine o_store_a rfl rfl rfl rfl rfl ?_ | refine o_store_oa rfl rfl rfl (Nat.succ_pos _) rfl (by assumption) ?_)) <;> (try (first | refine o_as (v := .bool _) (by decide) rfl ?_ | refine o_as (by decide) rfl ?_)) <;> (try (refine ops_nilk ?_; intro _)) <;> (try ((first | refine keep_cons (v := .pointer _) rfl ?_ | refine keep_cons (v := _) rfl ?_) <;> (first | refine keep_cons (v := .int _ _) rfl ?_ | refine keep_cons (v := _) rfl ?_) <;> (first | refine keep_cons (v := .pointer _) rfl ?_ | refine keep_cons (v := _) rfl ?_) <;> (first | refine keep_cons (v := .bool _) rfl ?_ | refine keep_cons (v := _) rfl ?_))) <;> (try refine keep_nil ?_))) | refine ex_seq ?_ | refine ex_ret ?_ | refine ex_skip ?_ | refine ex_exit ?_ | refine ex_cond_t rfl ?_ | refine ex_cond_f rfl ?_ | refine ex_cond_t (congrArg Value.bool (by assumption)) ?_ | refine ex_cond_f (congrArg Value.bool (by assumption)) ?_ | (refine ex_split rfl ?_ ?_ <;> intro hc))
    repeat' (first | (refine rG 2 [0, 1, 7, 15] ?_; ((try (refine wK ?_; intro _)))) | (refine rG 3 [6] ?_; ((try refine wO ?_) <;> (try (refine o_callB (by first | exact True.intro | (show _ < _; decide)) rfl rfl (ceRefused _ _ _ _ _ _ _ _ _ _ _) (fun _ _ => ?_))) <;> (try (refine wK ?_; intro _)))) | refine wC ?_ | (refine ex_split rfl ?_ ?_ <;> intro hc))
    exact fin (.inr rfl) () (resl1 rfl (rv_tmp rfl)) trivial (Ent.trans ent_take (ce_mk (rb := rb) (pb := pb) (mb := mb) (oa := oa) (ocp := ocp) (qa := qa) (ra := ra) (ta := ta) h1 h2 h3))
  | true =>
    by_cases hle : le = 0
    · have he : offer room i ⟨le, sp, re, q, run, id, rows, taken⟩ = (⟨le, sp, IntKind.i64.wrap (re + 1), q, run, id, rows, taken⟩, 4) := by unfold offer refuse; simp only [hO]; rw [if_neg (by decide), if_pos hle]
      have d0 : (le == 0) = true := by simp [hle]
      rw [he]
      refine spec_of Tryz.func69 rfl Tryz.ntmps69 rfl ?_
      repeat' (first | (refine rG 0 [0, 1, 5] ?_; ((try ((refine o_box (by decide) (v := .agg (inc i).toArray) rfl rfl (fun b5 => ?_)))) <;> (try (refine wK ?_; intro _)))) | (refine ex_regk (id := 1) (ts := [0, 1, 7, 8]) ?_; ((try (first | refine o_mv (v := .pointer _) (by decide) rfl ?_ | refine o_mv (by decide) rfl ?_)) <;> (try (refine o_load_a (vs := inc i) (by decide) rfl hload ?_)) <;> (try (refine o_callB (by first | exact True.intro | (show _ < _; decide)) rfl rfl (hown _) (fun _ _ => ?_))) <;> (try (refine o_mv (v := _) (by decide) rfl ?_)) <;> (try (refine o_extract (v := .agg (List.toArray _)) (by decide) rfl rfl ?_)) <;> (try (refine o_extract (v := .bool _) (by decide) rfl rfl ?_)) <;> (try ((refine o_alloc_a (by decide) (fun b7 => ?_)))) <;> (try (first | refine o_store_a rfl rfl rfl rfl rfl ?_ | refine o_store_oa rfl rfl rfl (Nat.succ_pos _) rfl (by assumption) ?_)) <;> (try (first | refine o_as (v := .bool _) (by decide) rfl ?_ | refine o_as (by decide) rfl ?_)) <;> (try (refine ops_nilk ?_; intro _)) <;> (try ((first | refine keep_cons (v := .pointer _) rfl ?_ | refine keep_cons (v := _) rfl ?_) <;> (first | refine keep_cons (v := .int _ _) rfl ?_ | refine keep_cons (v := _) rfl ?_) <;> (first | refine keep_cons (v := .pointer _) rfl ?_ | refine keep_cons (v := _) rfl ?_) <;> (first | refine keep_cons (v := .bool _) rfl ?_ | refine keep_cons (v := _) rfl ?_))) <;> (try refine keep_nil ?_))) | refine ex_seq ?_ | refine ex_ret ?_ | refine ex_skip ?_ | refine ex_exit ?_ | refine ex_cond_t rfl ?_ | refine ex_cond_f rfl ?_ | refine ex_cond_t (congrArg Value.bool (by assumption)) ?_ | refine ex_cond_f (congrArg Value.bool (by assumption)) ?_ | (refine ex_split rfl ?_ ?_ <;> intro hc))
      repeat' (first | (refine rG 2 [0, 1, 7, 15] ?_; ((try (refine wK ?_; intro _)))) | (refine ex_regk (id := 4) (ts := [0, 1, 7, 20]) ?_; ((try (first | refine o_mv (v := .pointer _) (by decide) rfl ?_ | refine o_mv (by decide) rfl ?_)) <;> (try (first | refine o_nil (by decide) rfl ?_ | refine o_nil_func (by decide) rfl ?_)) <;> (try (refine o_fieldAddr' (by decide) rfl ?_)) <;> (try (refine o_load_a (vs := [.int .i64 le, .int .i64 sp, .int .i64 re]) (by decide) rfl rfl ?_)) <;> (try (refine o_call (quLeft _ _ _) (by first | exact True.intro | (show _ < _; decide)) rfl rfl (fun _ _ => ?_))) <;> (try (refine o_int (by decide) rfl rfl rfl ?_)) <;> (try (first | refine o_as (v := .bool _) (by decide) rfl ?_ | refine o_as (by decide) rfl ?_)) <;> (try (refine ops_nilk ?_; intro _)) <;> (try ((first | refine keep_cons (v := .pointer _) rfl ?_ | refine keep_cons (v := _) rfl ?_) <;> (first | refine keep_cons (v := .int _ _) rfl ?_ | refine keep_cons (v := _) rfl ?_) <;> (first | refine keep_cons (v := .pointer _) rfl ?_ | refine keep_cons (v := _) rfl ?_) <;> (first | refine keep_cons (v := .bool _) rfl ?_ | refine keep_cons (v := _) rfl ?_))) <;> (try refine keep_nil ?_))) | (refine rG 5 [6] ?_; ((try refine wO ?_) <;> (try (refine o_callB (by first | exact True.intro | (show _ < _; decide)) rfl rfl (ceRefused _ _ _ _ _ _ _ _ _ _ _) (fun _ _ => ?_))) <;> (try (refine wK ?_; intro _)))) | refine wC ?_ | (refine ex_split rfl ?_ ?_ <;> intro hc))
      exact fin (.inr rfl) () (resl1 rfl (rv_tmp rfl)) trivial (Ent.trans ent_take (ce_mk (rb := rb) (pb := pb) (mb := mb) (oa := oa) (ocp := ocp) (qa := qa) (ra := ra) (ta := ta) h1 h2 h3))
    · have d0 : (le == 0) = false := by simp [hle]
      by_cases hr : (q.length : Int) + 1 > room
      · have he : offer room i ⟨le, sp, re, q, run, id, rows, taken⟩ = (⟨le, sp, IntKind.i64.wrap (re + 1), q, run, id, rows, taken⟩, 3) := by unfold offer refuse; simp only [hO]; rw [if_neg (by decide), if_neg hle, if_pos hr]
        rw [he]
        refine spec_of Tryz.func69 rfl Tryz.ntmps69 rfl ?_
        repeat' (first | (refine rG 0 [0, 1, 5] ?_; ((try ((refine o_box (by decide) (v := .agg (inc i).toArray) rfl rfl (fun b5 => ?_)))) <;> (try (refine wK ?_; intro _)))) | (refine ex_regk (id := 1) (ts := [0, 1, 7, 8]) ?_; ((try (first | refine o_mv (v := .pointer _) (by decide) rfl ?_ | refine o_mv (by decide) rfl ?_)) <;> (try (refine o_load_a (vs := inc i) (by decide) rfl hload ?_)) <;> (try (refine o_callB (by first | exact True.intro | (show _ < _; decide)) rfl rfl (hown _) (fun _ _ => ?_))) <;> (try (refine o_mv (v := _) (by decide) rfl ?_)) <;> (try (refine o_extract (v := .agg (List.toArray _)) (by decide) rfl rfl ?_)) <;> (try (refine o_extract (v := .bool _) (by decide) rfl rfl ?_)) <;> (try ((refine o_alloc_a (by decide) (fun b7 => ?_)))) <;> (try (first | refine o_store_a rfl rfl rfl rfl rfl ?_ | refine o_store_oa rfl rfl rfl (Nat.succ_pos _) rfl (by assumption) ?_)) <;> (try (first | refine o_as (v := .bool _) (by decide) rfl ?_ | refine o_as (by decide) rfl ?_)) <;> (try (refine ops_nilk ?_; intro _)) <;> (try ((first | refine keep_cons (v := .pointer _) rfl ?_ | refine keep_cons (v := _) rfl ?_) <;> (first | refine keep_cons (v := .int _ _) rfl ?_ | refine keep_cons (v := _) rfl ?_) <;> (first | refine keep_cons (v := .pointer _) rfl ?_ | refine keep_cons (v := _) rfl ?_) <;> (first | refine keep_cons (v := .bool _) rfl ?_ | refine keep_cons (v := _) rfl ?_))) <;> (try refine keep_nil ?_))) | refine ex_seq ?_ | refine ex_ret ?_ | refine ex_skip ?_ | refine ex_exit ?_ | refine ex_cond_t rfl ?_ | refine ex_cond_f rfl ?_ | refine ex_cond_t (congrArg Value.bool (by assumption)) ?_ | refine ex_cond_f (congrArg Value.bool (by assumption)) ?_ | (refine ex_split rfl ?_ ?_ <;> intro hc))
        refine Ex.ent ?_ (ent_clL (b := b7) (l' := inc (omk, otm, oky, ovl, olb)) rfl)
        repeat' (first | (refine rG 2 [0, 1, 7, 15] ?_; ((try (refine wK ?_; intro _)))) | (refine ex_regk (id := 4) (ts := [0, 1, 7, 20]) ?_; ((try (first | refine o_mv (v := .pointer _) (by decide) rfl ?_ | refine o_mv (by decide) rfl ?_)) <;> (try (first | refine o_nil (by decide) rfl ?_ | refine o_nil_func (by decide) rfl ?_)) <;> (try (refine o_fieldAddr' (by decide) rfl ?_)) <;> (try (refine o_load_a (vs := [.int .i64 le, .int .i64 sp, .int .i64 re]) (by decide) rfl rfl ?_)) <;> (try (refine o_call (quLeft _ _ _) (by first | exact True.intro | (show _ < _; decide)) rfl rfl (fun _ _ => ?_))) <;> (try (refine o_int (by decide) rfl rfl rfl ?_)) <;> (try (first | refine o_as (v := .bool _) (by decide) rfl ?_ | refine o_as (by decide) rfl ?_)) <;> (try (refine ops_nilk ?_; intro _)) <;> (try ((first | refine keep_cons (v := .pointer _) rfl ?_ | refine keep_cons (v := _) rfl ?_) <;> (first | refine keep_cons (v := .int _ _) rfl ?_ | refine keep_cons (v := _) rfl ?_) <;> (first | refine keep_cons (v := .pointer _) rfl ?_ | refine keep_cons (v := _) rfl ?_) <;> (first | refine keep_cons (v := .bool _) rfl ?_ | refine keep_cons (v := _) rfl ?_))) <;> (try refine keep_nil ?_))) | refine wC ?_ | (refine ex_split rfl ?_ ?_ <;> intro hc))
        repeat' (first | (refine rA 6 [0, 29] 9 ?_; (refine os_but 0 rfl ?_); ((refine lQ 0 ?_; ((refine lQ 1 ?_; ((refine lQ 2 ?_; ((refine lQ 3 ?_; ((refine lC (v := ?_) 4 ?_ ?_; rotate_left; (focus ((refine o_load_a (vs := inc (omk, otm, oky, ovl, olb)) (by decide) rfl rfl ?_) <;> exact lL)); ((refine oN 5 ?_ <;> ((refine o_buildSlice (by decide) rfl rfl rfl (fun _ => ?_))) <;> (refine os_nil ?_) <;> ((refine oN 6 ?_ <;> (refine o_callB (by first | exact True.intro | (show _ < _; decide)) rfl rfl (quePushN b _ _ _ _ _ _ _ _ qa _ q [(omk, otm, oky, ovl, olb)] qc _ room (by omega) (by simp) (by simp; omega)) (fun _ _ => ?_)) <;> (refine os_nil ?_) <;> ((refine lQ 7 ?_; ((refine lQ 8 ?_; ((refine dK ?_; intro _))))))))))))))))))))) | (refine rG 7 [6] ?_; ((try refine wO ?_) <;> (try (refine o_callB (by first | exact True.intro | (show _ < _; decide)) rfl rfl (ceRefused _ _ _ _ _ _ _ _ _ _ _) (fun _ _ => ?_))) <;> (try (refine wK ?_; intro _)))) | refine wC ?_ | (refine ex_split rfl ?_ ?_ <;> intro hc))
        all_goals exact fin (.inr rfl) () (resl1 rfl (rv_tmp rfl)) trivial (Ent.trans ent_take (ce_mk (rb := rb) (pb := pb) (mb := mb) (oa := oa) (ocp := ocp) (qa := qa) (ra := ra) (ta := ta) h1 h2 h3))
      · have he : offer room i ⟨le, sp, re, q, run, id, rows, taken⟩ = (⟨le - 1, IntKind.i64.wrap (sp + 1), re, q ++ [(omk, otm, oky, ovl, olb)], run, id, rows, taken⟩, 0) := by unfold offer refuse; simp only [hO]; rw [if_neg (by decide), if_neg hle, if_neg hr]
        rw [he]
        refine spec_of Tryz.func69 rfl Tryz.ntmps69 rfl ?_
        repeat' (first | (refine rG 0 [0, 1, 5] ?_; ((try ((refine o_box (by decide) (v := .agg (inc i).toArray) rfl rfl (fun b5 => ?_)))) <;> (try (refine wK ?_; intro _)))) | (refine ex_regk (id := 1) (ts := [0, 1, 7, 8]) ?_; ((try (first | refine o_mv (v := .pointer _) (by decide) rfl ?_ | refine o_mv (by decide) rfl ?_)) <;> (try (refine o_load_a (vs := inc i) (by decide) rfl hload ?_)) <;> (try (refine o_callB (by first | exact True.intro | (show _ < _; decide)) rfl rfl (hown _) (fun _ _ => ?_))) <;> (try (refine o_mv (v := _) (by decide) rfl ?_)) <;> (try (refine o_extract (v := .agg (List.toArray _)) (by decide) rfl rfl ?_)) <;> (try (refine o_extract (v := .bool _) (by decide) rfl rfl ?_)) <;> (try ((refine o_alloc_a (by decide) (fun b7 => ?_)))) <;> (try (first | refine o_store_a rfl rfl rfl rfl rfl ?_ | refine o_store_oa rfl rfl rfl (Nat.succ_pos _) rfl (by assumption) ?_)) <;> (try (first | refine o_as (v := .bool _) (by decide) rfl ?_ | refine o_as (by decide) rfl ?_)) <;> (try (refine ops_nilk ?_; intro _)) <;> (try ((first | refine keep_cons (v := .pointer _) rfl ?_ | refine keep_cons (v := _) rfl ?_) <;> (first | refine keep_cons (v := .int _ _) rfl ?_ | refine keep_cons (v := _) rfl ?_) <;> (first | refine keep_cons (v := .pointer _) rfl ?_ | refine keep_cons (v := _) rfl ?_) <;> (first | refine keep_cons (v := .bool _) rfl ?_ | refine keep_cons (v := _) rfl ?_))) <;> (try refine keep_nil ?_))) | refine ex_seq ?_ | refine ex_ret ?_ | refine ex_skip ?_ | refine ex_exit ?_ | refine ex_cond_t rfl ?_ | refine ex_cond_f rfl ?_ | refine ex_cond_t (congrArg Value.bool (by assumption)) ?_ | refine ex_cond_f (congrArg Value.bool (by assumption)) ?_ | (refine ex_split rfl ?_ ?_ <;> intro hc))
        refine Ex.ent ?_ (ent_clL (b := b7) (l' := inc (omk, otm, oky, ovl, olb)) rfl)
        repeat' (first | (refine rG 2 [0, 1, 7, 15] ?_; ((try (refine wK ?_; intro _)))) | (refine ex_regk (id := 4) (ts := [0, 1, 7, 20]) ?_; ((try (first | refine o_mv (v := .pointer _) (by decide) rfl ?_ | refine o_mv (by decide) rfl ?_)) <;> (try (first | refine o_nil (by decide) rfl ?_ | refine o_nil_func (by decide) rfl ?_)) <;> (try (refine o_fieldAddr' (by decide) rfl ?_)) <;> (try (refine o_load_a (vs := [.int .i64 le, .int .i64 sp, .int .i64 re]) (by decide) rfl rfl ?_)) <;> (try (refine o_call (quLeft _ _ _) (by first | exact True.intro | (show _ < _; decide)) rfl rfl (fun _ _ => ?_))) <;> (try (refine o_int (by decide) rfl rfl rfl ?_)) <;> (try (first | refine o_as (v := .bool _) (by decide) rfl ?_ | refine o_as (by decide) rfl ?_)) <;> (try (refine ops_nilk ?_; intro _)) <;> (try ((first | refine keep_cons (v := .pointer _) rfl ?_ | refine keep_cons (v := _) rfl ?_) <;> (first | refine keep_cons (v := .int _ _) rfl ?_ | refine keep_cons (v := _) rfl ?_) <;> (first | refine keep_cons (v := .pointer _) rfl ?_ | refine keep_cons (v := _) rfl ?_) <;> (first | refine keep_cons (v := .bool _) rfl ?_ | refine keep_cons (v := _) rfl ?_))) <;> (try refine keep_nil ?_))) | refine wC ?_ | (refine ex_split rfl ?_ ?_ <;> intro hc))
        repeat' (first | (refine rA 6 [0, 29] 9 ?_; (refine os_but 0 rfl ?_); ((refine lQ 0 ?_; ((refine lQ 1 ?_; ((refine lQ 2 ?_; ((refine lQ 3 ?_; ((refine lC (v := ?_) 4 ?_ ?_; rotate_left; (focus ((refine o_load_a (vs := inc (omk, otm, oky, ovl, olb)) (by decide) rfl rfl ?_) <;> exact lL)); ((refine oN 5 ?_ <;> ((refine o_buildSlice (by decide) rfl rfl rfl (fun _ => ?_))) <;> (refine os_nil ?_) <;> ((refine oN 6 ?_ <;> ((refine o_callBR (by first | exact True.intro | (show _ < _; decide)) rfl rfl rfl (quePush b _ _ _ _ _ _ _ _ qa _ q [(omk, otm, oky, ovl, olb)] qc _ room (by omega) (by simp) (by simp; omega)) (fun y hy => ?_); obtain ⟨qa2, qc2⟩ := y)) <;> (refine os_nil ?_) <;> ((refine lQ 7 ?_; ((refine lQ 8 ?_; ((refine dK ?_; intro _))))))))))))))))))))) | refine wC ?_ | (refine ex_split rfl ?_ ?_ <;> intro hc))
        all_goals
          repeat' (first | (refine rG 8 [] ?_; ((try refine wO ?_) <;> (try ((refine o_buildSlice (by decide) rfl rfl rfl (fun _ => ?_)))) <;> (try (refine o_callBR (by first | exact True.intro | (show _ < _; decide)) rfl rfl rfl (quSpend b le sp re _ _ _ _ _ _ _ _ _ (by omega) (by omega)) (fun _ _ => ?_))) <;> (try (refine wK ?_; intro _)))) | (refine rG 9 [6] ?_; ((try (refine wK ?_; intro _)))) | refine wC ?_ | (refine ex_split rfl ?_ ?_ <;> intro hc))
          exact fin (.inr rfl) () (resl1 rfl (rv_tmp rfl)) trivial (Ent.trans ent_take (ce_mk (rb := rb) (pb := pb) (mb := mb) (oa := oa) (ocp := ocp) (qa := qa2) (qc := qc2) (ra := ra) (ta := ta) hy h2 h3))
end Go.Proofs.YtcelailgedndnaaGreatS
namespace Go.Proofs.YtcelailgedndnaaGreatS
open Go.RowKit
set_option linter.unusedVariables false
set_option linter.unusedSimpArgs false
set_option linter.unusedVariables false
set_option linter.unusedSimpArgs false
attribute [local irreducible] Ops Ex Spec T V QO OA Rn OS
set_option maxHeartbeats 16000000 in
theorem ceFeed {X H : HP} (b : Nat) (c : Cd) (e : Ev) [t : Take (CE b c) X H] {n : Nat} (hok : CdOk c n) (hn : n ≤ 10000) :
    Spec Tryz.prog 121 [.pointer (some ⟨b, 0, none⟩), .agg (R.ec e).toArray] X (X := Unit) (fun _ => .tuple #[]) (fun _ => True) (fun _ => CE b (feedC e c) * H) := by
  obtain ⟨le, sp, re, q, run, id, rows, taken⟩ := c
  obtain ⟨_, _, _, k4, k5, k6, k7, k8⟩ := hok
  simp only at k4 k5 k6 k7 k8
  rw [t.eq]
  refine ce_open fun rb pb mb oa ocp qa qc ra rc ta tc h1 h2 h3 => ?_
  have hload : sub (R.ec e) 0 4 = some (R.ec e) := rfl
  cases hE : evR e with
  | false =>
    have he : feedC e ⟨le, sp, re, q, run, id, rows, taken⟩ = ⟨le, sp, re, q, run, id, rows, taken⟩ := by unfold feedC; rw [hE]; rfl
    rw [he]
    refine spec_of Tryz.func121 rfl Tryz.ntmps121 rfl ?_
    repeat' (first | (refine rG 0 [0, 3] ?_; ((try ((refine o_box (by decide) (v := .agg (R.ec e).toArray) rfl rfl (fun b3 => ?_)))) <;> (try (refine wK ?_; intro _)))) | (refine ex_regk (id := 1) (ts := [0, 3, 5]) ?_; ((try (refine o_load_a (vs := R.ec e) (by decide) rfl hload ?_)) <;> (try (refine o_call (evRight e hE) (by first | exact True.intro | (show _ < _; decide)) rfl rfl (fun _ _ => ?_))) <;> (try (refine ops_nilk ?_; intro _)) <;> (try ((first | refine keep_cons (v := .pointer _) rfl ?_ | refine keep_cons (v := _) rfl ?_) <;> (first | refine keep_cons (v := .pointer _) rfl ?_ | refine keep_cons (v := _) rfl ?_) <;> (first | refine keep_cons (v := .bool _) rfl ?_ | refine keep_cons (v := _) rfl ?_))) <;> (try refine keep_nil ?_))) | refine wC ?_ | (refine ex_split rfl ?_ ?_ <;> intro hc))
    exact fin (.inl rfl) () (resl0 rfl) trivial (Ent.trans ent_take (ce_mk (rb := rb) (pb := pb) (mb := mb) (oa := oa) (ocp := ocp) (qa := qa) (ra := ra) (ta := ta) h1 h2 h3))
  | true =>
    have he : feedC e ⟨le, sp, re, q, run, id, rows, taken⟩ = ⟨le, sp, re, q ++ [(false, e)], run, id, rows, taken⟩ := by unfold feedC; rw [hE]; rfl
    rw [he]
    refine spec_of Tryz.func121 rfl Tryz.ntmps121 rfl ?_
    repeat' (first | (refine rG 0 [0, 3] ?_; ((try ((refine o_box (by decide) (v := .agg (R.ec e).toArray) rfl rfl (fun b3 => ?_)))) <;> (try (refine wK ?_; intro _)))) | (refine ex_regk (id := 1) (ts := [0, 3, 5]) ?_; ((try (refine o_load_a (vs := R.ec e) (by decide) rfl hload ?_)) <;> (try (refine o_call (evRight e hE) (by first | exact True.intro | (show _ < _; decide)) rfl rfl (fun _ _ => ?_))) <;> (try (refine ops_nilk ?_; intro _)) <;> (try ((first | refine keep_cons (v := .pointer _) rfl ?_ | refine keep_cons (v := _) rfl ?_) <;> (first | refine keep_cons (v := .pointer _) rfl ?_ | refine keep_cons (v := _) rfl ?_) <;> (first | refine keep_cons (v := .bool _) rfl ?_ | refine keep_cons (v := _) rfl ?_))) <;> (try refine keep_nil ?_))) | refine wC ?_ | (refine ex_split rfl ?_ ?_ <;> intro hc))
    repeat' (first | (refine rA 2 [] 7 ?_; (refine os_but 0 rfl ?_); ((refine lQ 0 ?_; ((refine lQ 1 ?_; ((refine lQ 2 ?_; ((refine lC (v := ?_) 3 ?_ ?_; rotate_left; (focus ((refine o_load_a (vs := R.ec e) (by decide) rfl hload ?_) <;> exact lL)); ((refine lC (v := ?_) 4 ?_ ?_; rotate_left; (focus ((refine o_build (cells := inc (false, e)) (by decide) rfl ?_) <;> exact lL)); ((refine oN 5 ?_ <;> ((refine o_buildSlice (by decide) rfl rfl rfl (fun _ => ?_))) <;> (refine os_nil ?_) <;> ((refine oN 6 ?_ <;> ((refine o_callBR (by first | exact True.intro | (show _ < _; decide)) rfl rfl rfl (quePush b _ _ _ _ _ _ _ _ qa _ q [(false, e)] qc _ 9223372036854775807 (by omega) (by simp) (by simp; omega)) (fun y hy => ?_); obtain ⟨qa2, qc2⟩ := y)) <;> (refine os_nil ?_) <;> ((refine dK ?_; intro _))))))))))))))))) | refine wC ?_ | (refine ex_split rfl ?_ ?_ <;> intro hc))
    all_goals exact fin (.inl rfl) () (resl0 rfl) trivial (Ent.trans ent_take (ce_mk (rb := rb) (pb := pb) (mb := mb) (oa := oa) (ocp := ocp) (qa := qa2) (qc := qc2) (ra := ra) (ta := ta) hy h2 h3))
theorem queAll (H : HP) (a : Option Addr) (xs : List In) (cap : Nat) [hr : RdC H a (xs.flatMap inc)] (hx : xs.length ≤ 1000000) : Spec Tryz.prog 24 [.agg [.slice a xs.length cap].toArray] H (X := Option Addr × Nat) (fun x => .slice x.1 xs.length x.2) (fun x => xs.length ≤ x.2) (fun x => ow 39 5 x.1 xs.length x.2 (xs.flatMap inc) * H) := by
  refine spec_of Tryz.func24 rfl Tryz.ntmps24 rfl ?_
  repeat' (first | (refine rG 0 [1] ?_; ((try ((refine o_box (by decide) (v := .agg (List.toArray _)) rfl rfl (fun _ => ?_)))) <;> (try (refine wK ?_; intro _)))) | (refine rG 1 [2] ?_; ((try refine wO ?_) <;> (try (refine o_callH (cloneI _ _ xs _ hx) (by first | exact True.intro | (show _ < _; decide)) rfl rfl (fun x hc => ?_))) <;> (try (refine wK ?_; intro _)))) | refine wC ?_ | (refine ex_split rfl ?_ ?_ <;> intro hc))
  exact fin (.inr rfl) x (resl1 rfl (rv_tmp rfl)) hc (Ent.frameL (Ent.drop _ _) _)
theorem queSplit (H : HP) (a : Option Addr) (xs : List In) (cap : Nat) [hr : RdC H a (xs.flatMap inc)] (hx : xs.length ≤ 1000000) : Spec Tryz.prog 71 [.agg [.slice a xs.length cap].toArray] H (X := Option Addr × Nat) (fun x => .agg [.slice x.1 xs.length x.2].toArray) (fun x => xs.length ≤ x.2) (fun x => ow 39 5 x.1 xs.length x.2 (xs.flatMap inc) * H) := by
  refine spec_of Tryz.func71 rfl Tryz.ntmps71 rfl ?_
  repeat' (first | (refine rG 0 [1, 2] ?_; ((try ((refine o_box (by decide) (v := .agg (List.toArray _)) rfl rfl (fun _ => ?_)))) <;> (try ((refine o_alloc_a (by decide) (fun _ => ?_)))) <;> (try (refine wK ?_; intro _)))) | (refine rG 1 [2] ?_; ((try refine wO ?_) <;> (try (refine o_callH (queAll _ _ xs _ hx) (by first | exact True.intro | (show _ < _; decide)) rfl rfl (fun x hc => ?_))) <;> (try (refine wK ?_; intro _)))) | refine wC ?_ | (refine ex_split rfl ?_ ?_ <;> intro hc))
  exact fin (.inr rfl) x (resl1 rfl (rv_cell_a rfl rfl)) hc (Ent.trans (Ent.drop _ _) (Ent.frameL (Ent.drop _ _) _))
theorem queWaiting (a : Option Addr) (m cap : Nat) : Spec Tryz.prog 116 [.agg [.slice a m cap].toArray] 1 (X := Unit) (fun _ => .int .i64 (m : Int)) (fun _ => True) (fun _ => 1) := by
  refine spec_of Tryz.func116 rfl Tryz.ntmps116 rfl ?_
  repeat' (first | (refine rG 0 [1] ?_; ((try ((refine o_box (by decide) (v := .agg (List.toArray _)) rfl rfl (fun _ => ?_)))) <;> (try (refine wK ?_; intro _)))) | (refine rG 1 [2] ?_; ((try (refine wK ?_; intro _)))) | refine wC ?_ | (refine ex_split rfl ?_ ?_ <;> intro hc))
  exact fin (.inr rfl) () (resl1 rfl (rv_tmp rfl)) trivial (Ent.toOne _)
theorem ceTaken (b : Nat) (v0 v1 v2 v3 v4 v5 v6 : Value) (ta : Option Addr) (taken : List In) (tc : Nat) (t) {H R0 : HP} [h : HasL H b true [v0, v1, v2, v3, v4, v5, v6, .slice ta taken.length tc] t (0, 0) R0] [hr : RdC H ta (taken.flatMap inc)] (hl : taken.length ≤ 100000) :
    Spec Tryz.prog 23 [.pointer (some ⟨b, 0, none⟩)] H (X := Option Addr × Nat) (fun y => .slice y.1 taken.length y.2) (fun y => taken.length ≤ y.2) (fun y => ow 39 5 y.1 taken.length y.2 (taken.flatMap inc) * H) := by
  refine spec_of Tryz.func23 rfl Tryz.ntmps23 rfl ?_
  repeat' (first | (refine rG 0 [0] ?_; ((try (refine wK ?_; intro _)))) | (refine rG 1 [2] ?_; ((try refine wO ?_) <;> (try ((refine o_callH (cloneI _ ta taken _ (by omega)) (by first | exact True.intro | (show _ < _; decide)) rfl rfl (fun y hy => ?_)))) <;> (try (refine wK ?_; intro _)))) | refine wC ?_ | (refine ex_split rfl ?_ ?_ <;> intro hc))
  exact fin (.inr rfl) y (resl1 rfl (rv_tmp rfl)) hy (Ent.refl _)
set_option maxHeartbeats 16000000 in
theorem ceServe {X H : HP} (b : Nat) (c : Cd) (k : Int) [t : Take (CE b c) X H] {n : Nat} (hok : CdOk c n) (hn : n ≤ 10000) :
    Spec Tryz.prog 118 [.pointer (some ⟨b, 0, none⟩), .int .i64 k] X (X := Option Addr × Nat) (fun y => .slice y.1 (serve k c).2.length y.2) (fun y => (serve k c).2.length ≤ y.2) (fun y => ow 67 5 y.1 (serve k c).2.length y.2 ((serve k c).2.flatMap rwc) * (CE b (serve k c).1 * H)) := by
  obtain ⟨le, sp, re, q, run, id, rows, taken⟩ := c
  obtain ⟨k1, k2, k3, k4, k5, k6, k7, k8⟩ := hok
  simp only at k1 k2 k3 k4 k5 k6 k7 k8
  rw [t.eq]
  refine ce_open fun rb pb mb oa ocp qa qc ra rc ta tc h1 h2 h3 => ?_
  have hk := pk_le k q.length
  have hok1 : RuOk run (8 * taken.length - rows.length) := ⟨k1, k2, by omega⟩
  have hok2 := rnTake_ok hok1 (q.take (pk k q.length))
  have hs : serve k ⟨le, sp, re, q, run, id, rows, taken⟩ = (⟨le, sp, re, q.drop (pk k q.length), (rnTake run (q.take (pk k q.length))).1, id, rows ++ (rnTake run (q.take (pk k q.length))).2, taken ++ q.take (pk k q.length)⟩, (rnTake run (q.take (pk k q.length))).2) := rfl
  rw [hs]
  have hlt : (q.take (pk k q.length)).length ≤ q.length := by rw [List.length_take]; omega
  have hpop := fun (R R' : HP) (h : Take (rs qa (q.flatMap inc)) R R') => quePop b 60 (.int .i64 le) (.int .i64 sp) (.int .i64 re) (.pointer (some ⟨rb, 0, none⟩)) (.int .i64 id) (.slice ra rows.length rc) (.slice ta taken.length tc) qa q qc k (ta := h) (by omega) h1
  have htk := fun (X' H' : HP) (h : Take (RR rb pb mb oa ocp run) X' H') (a : Option Addr) (cap : Nat) (hr : RdC H' a ((q.take (pk k q.length)).flatMap inc)) => ruTake rb pb mb oa ocp run a (q.take (pk k q.length)) cap (t := h) (hr := hr) hok1 (by omega)
  generalize q.take (pk k q.length) = ins at *
  generalize q.drop (pk k q.length) = q2 at *
  generalize hT : rnTake run ins = T at *
  obtain ⟨run2, out⟩ := T
  obtain ⟨_, k9⟩ := hok2
  simp only at k9
  refine spec_of Tryz.func118 rfl Tryz.ntmps118 rfl ?_
  repeat' (first | (refine rG 0 [0, 1] ?_; ((try (refine wK ?_; intro _)))) | (refine rG 1 [0, 5] ?_; ((try refine wO ?_) <;> (try ((refine o_callBR (by first | exact True.intro | (show _ < _; decide)) rfl rfl rfl (hpop _ _ inferInstance) (fun y hy => ?_); obtain ⟨⟨ia, ic⟩, qa2, qc2⟩ := y))) <;> (try (refine wK ?_; intro _)))) | refine wC ?_ | (refine ex_split rfl ?_ ?_ <;> intro hc))
  repeat' (first | (refine rG 2 [0, 5] ?_; ((try refine wO ?_) <;> (try (refine o_appendT (cells := inc) (xs := taken) (ys := ins) inc_len inc_one (by decide) rfl rfl rfl rfl rfl (by omega) (by simp only [maxLen]; omega) (fun ta2 tc2 ht2 => ?_))) <;> (try (refine wK ?_; intro _)))) | refine wC ?_ | (refine ex_split rfl ?_ ?_ <;> intro hc))
  repeat' (first | (refine rG 3 [0, 6] ?_; ((try refine wO ?_) <;> (try ((refine o_callH (htk _ _ inferInstance _ _ inferInstance) (by first | exact True.intro | (show _ < _; decide)) rfl rfl (fun y hy2 => ?_); obtain ⟨oa2, oc2⟩ := y))) <;> (try (refine wK ?_; intro _)))) | refine wC ?_ | (refine ex_split rfl ?_ ?_ <;> intro hc))
  repeat' (first | (refine rG 4 [6] ?_; ((try refine wO ?_) <;> (try (refine o_appendT (cells := rwc) (xs := rows) (ys := out) rwc_len rwc_one (by decide) rfl rfl rfl rfl rfl (by omega) (by simp only [maxLen]; omega) (fun ra2 rc2 hr2 => ?_))) <;> (try (refine wK ?_; intro _)))) | (refine rG 5 [4] ?_; ((try (refine wK ?_; intro _)))) | refine wC ?_ | (refine ex_split rfl ?_ ?_ <;> intro hc))
  refine fin (.inr rfl) (oa2, oc2) (resl1 rfl (rv_tmp rfl)) hy2 ?_
  refine Ent.trans (ent_clL (b := b) (l' := [.int .i64 le, .int .i64 sp, .int .i64 re, .slice qa2 q2.length qc2, .pointer (some ⟨rb, 0, none⟩), .int .i64 id, .slice ra2 (rows ++ out).length rc2, .slice ta2 (taken ++ ins).length tc2]) rfl) ?_
  exact Ent.trans ent_take (Ent.frameL (ce_mk (rb := rb) (pb := pb) (mb := mb) (oa := oa) (ocp := ocp) (qa := qa2) (qc := qc2) (ra := ra2) (rc := rc2) (ta := ta2) (tc := tc2) hy.2 hr2 ht2) _)
theorem rowsAt_no {f n : Int} {c : Cd} (h : f < 0 ∨ f > (c.rows.length : Int)) : rowsAt f n c = ([], 5) := by unfold rowsAt; rw [if_pos h]
theorem rowsAt_ok {f n : Int} {c : Cd} (h : ¬ (f < 0 ∨ f > (c.rows.length : Int))) : rowsAt f n c = ((c.rows.drop f.toNat).take (Bd.tk n (c.rows.length - f.toNat)), 0) := by unfold rowsAt; rw [if_neg h]
set_option maxHeartbeats 16000000 in
theorem ceRows {X H : HP} (b : Nat) (c : Cd) (f k : Int) [t : Take (CE b c) X H] {n : Nat} (hok : CdOk c n) (hn : n ≤ 10000) :
    Spec Tryz.prog 70 [.pointer (some ⟨b, 0, none⟩), .int .i64 f, .int .i64 k] X (X := Option Addr × Nat) (fun y => .tuple #[.slice y.1 (rowsAt f k c).1.length y.2, .int .i64 (rowsAt f k c).2]) (fun y => (rowsAt f k c).1.length ≤ y.2) (fun y => ow 67 5 y.1 (rowsAt f k c).1.length y.2 ((rowsAt f k c).1.flatMap rwc) * (CE b c * H)) := by
  by_cases hf : f < 0 ∨ f > (c.rows.length : Int)
  · rw [rowsAt_no hf]
    obtain ⟨le, sp, re, q, run, id, rows, taken⟩ := c
    have hf : f < 0 ∨ f > (rows.length : Int) := hf
    rw [t.eq]
    refine ce_open fun rb pb mb oa ocp qa qc ra rc ta tc h1 h2 h3 => ?_
    have hd : decide (f < 0) = true ∨ (decide (f < 0) = false ∧ decide (f > (rows.length : Int)) = true) := by
      by_cases h : f < 0
      · exact .inl (decide_eq_true h)
      · exact .inr ⟨decide_eq_false h, decide_eq_true (by omega)⟩
    rcases hd with hd | ⟨hd, hd2⟩
    all_goals
      refine spec_of Tryz.func70 rfl Tryz.ntmps70 rfl ?_
      repeat' (first | (refine rG 0 [0, 1, 2] ?_; ((try (refine wK ?_; intro _)))) | (refine rG 1 [0, 1, 2, 18] ?_; ((try refine wO ?_) <;> (repeat' (refine g_split rfl (by decide) rfl (by decide) ?_ ?_ <;> intro hc <;> (try refine wO ?_))) <;> (try (refine wK ?_; intro _)))) | (refine rG 2 [6, 7] ?_; ((try (refine wK ?_; intro _)))) | refine wC ?_ | (refine ex_split rfl ?_ ?_ <;> intro hc))
      refine fin (.inr rfl) (none, 0) (resl2 rfl (rv_tmp rfl) (rv_tmp rfl)) (Nat.le_refl _) ?_
      show Ent _ (ow 67 5 none 0 0 [] * _)
      exact Ent.trans (Ent.ow_none 67 5 _) (Ent.trans ent_take (Ent.frameL (ce_mk (rb := rb) (pb := pb) (mb := mb) (oa := oa) (ocp := ocp) (qa := qa) (ra := ra) (ta := ta) h1 h2 h3) _))
  · rw [rowsAt_ok hf]
    obtain ⟨le, sp, re, q, run, id, rows, taken⟩ := c
    obtain ⟨k1, k2, k3, k4, k5, k6, k7, k8⟩ := hok
    simp only at k1 k2 k3 k4 k5 k6 k7 k8
    have hf : ¬ (f < 0 ∨ f > (rows.length : Int)) := hf
    obtain ⟨g, rfl⟩ : ∃ g : Nat, f = (g : Int) := ⟨f.toNat, by omega⟩
    rw [Int.toNat_natCast]
    have hg : g ≤ rows.length := by omega
    rw [t.eq]
    refine ce_open fun rb pb mb oa ocp qa qc ra rc ta tc h1 h2 h3 => ?_
    obtain ⟨t1, t2⟩ := Bd.tk_le k (rows.length - g)
    have d9 : decide ((g : Int) < 0) = false := decide_eq_false (by omega)
    have d17 : decide ((g : Int) > (rows.length : Int)) = false := decide_eq_false (by omega)
    have e26 : IntKind.i64.wrap ((rows.length : Int) - (g : Int)) = ((rows.length - g : Nat) : Int) := by rw [IntKind.wrap_i64]; omega
    have e28 := Bd.tk_eq k (rows.length - g) (by omega)
    have e36 : IntKind.i64.wrap ((g : Int) + (Bd.tk k (rows.length - g) : Int)) = ((g + Bd.tk k (rows.length - g) : Nat) : Int) := by rw [IntKind.wrap_i64]; omega
    have hcut : ((rows.flatMap rwc).drop (g * 5)).take ((g + Bd.tk k (rows.length - g) - g) * 5) = ((rows.drop g).take (Bd.tk k (rows.length - g))).flatMap rwc := by
      rw [Nat.add_sub_cancel_left, flat_drop rwc_len, flat_take rwc_len]
    have hxl : ((rows.drop g).take (Bd.tk k (rows.length - g))).length = Bd.tk k (rows.length - g) := by rw [List.length_take, List.length_drop]; omega
    show Spec _ _ _ _ (X := Option Addr × Nat) (fun y => .tuple #[.slice y.1 ((rows.drop g).take (Bd.tk k (rows.length - g))).length y.2, .int .i64 0]) (fun y => ((rows.drop g).take (Bd.tk k (rows.length - g))).length ≤ y.2) (fun y => ow 67 5 y.1 ((rows.drop g).take (Bd.tk k (rows.length - g))).length y.2 (((rows.drop g).take (Bd.tk k (rows.length - g))).flatMap rwc) * _)
    generalize (rows.drop g).take (Bd.tk k (rows.length - g)) = x at *
    generalize Bd.tk k (rows.length - g) = qn at *
    have hqx : g + qn - g = x.length := by omega
    refine spec_of Tryz.func70 rfl Tryz.ntmps70 rfl ?_
    repeat' (first | (refine rG 0 [0, 1, 2] ?_; ((try (refine wK ?_; intro _)))) | (refine rG 1 [0, 1, 2, 18] ?_; ((try refine wO ?_) <;> (repeat' (refine g_split rfl (by decide) rfl (by decide) ?_ ?_ <;> intro hc <;> (try refine wO ?_))) <;> (try (refine wK ?_; intro _)))) | (refine ex_regk (id := 3) (ts := [0, 1, 2]) ?_; ((try (first | refine o_mv (v := .int _ _) (by decide) rfl ?_ | refine o_mv (by decide) rfl ?_)) <;> (try (first | refine o_mv (v := .pointer _) (by decide) rfl ?_ | refine o_mv (by decide) rfl ?_)) <;> (try (first | refine o_nil (by decide) rfl ?_ | refine o_nil_func (by decide) rfl ?_)) <;> (try (refine o_fieldAddr' (by decide) rfl ?_)) <;> (try (first | refine o_load_s (v := .slice _ _ _) (by decide) rfl rfl ?_ | refine o_load_s (by decide) rfl rfl ?_ | refine o_load_r (by decide) rfl (by assumption) ?_ | refine o_load_r (v := .slice _ _ _) (by decide) rfl rfl ?_)) <;> (try (refine o_len (by decide) rfl rfl ?_)) <;> (try (first | refine o_mv (v := .int _ _) (by decide) rfl ?_ | refine o_mv (by decide) rfl ?_)) <;> (try ((refine o_int (by decide) rfl rfl rfl ?_; rw [e26]))) <;> (try (refine o_min3 (by decide) rfl rfl rfl ?_)) <;> (try ((refine o_max2 (by decide) rfl rfl ?_; rw [e28]))) <;> (try (first | refine o_as (v := .int _ _) (by decide) rfl ?_ | refine o_as (by decide) rfl ?_)) <;> (try (refine ops_nilk ?_; intro _)) <;> (try ((first | refine keep_cons (v := .pointer _) rfl ?_ | refine keep_cons (v := _) rfl ?_) <;> (first | refine keep_cons (v := .int _ _) rfl ?_ | refine keep_cons (v := _) rfl ?_) <;> (first | refine keep_cons (v := .int _ _) rfl ?_ | refine keep_cons (v := _) rfl ?_))) <;> (try refine keep_nil ?_))) | (refine ex_regk (id := 4) (ts := [6, 7]) ?_; ((try (first | refine o_mv (v := .pointer _) (by decide) rfl ?_ | refine o_mv (by decide) rfl ?_)) <;> (try (first | refine o_nil (by decide) rfl ?_ | refine o_nil_func (by decide) rfl ?_)) <;> (try (refine o_fieldAddr' (by decide) rfl ?_)) <;> (try (first | refine o_load_s (v := .slice _ _ _) (by decide) rfl rfl ?_ | refine o_load_s (by decide) rfl rfl ?_ | refine o_load_r (by decide) rfl (by assumption) ?_ | refine o_load_r (v := .slice _ _ _) (by decide) rfl rfl ?_)) <;> (try (first | refine o_mv (v := .int _ _) (by decide) rfl ?_ | refine o_mv (by decide) rfl ?_)) <;> (try (first | refine o_mv (v := .int _ _) (by decide) rfl ?_ | refine o_mv (by decide) rfl ?_)) <;> (try (first | refine o_mv (v := .int _ _) (by decide) rfl ?_ | refine o_mv (by decide) rfl ?_)) <;> (try ((refine o_int (by decide) rfl rfl rfl ?_; rw [e36]))) <;> (try ((refine o_slice_r (l := g) (h := g + qn) (by decide) rfl ⟨_, _, rfl, by omega, by omega, by omega⟩ ⟨_, _, rfl, by omega, by omega, by omega⟩ (by omega) (fun a37 hr37 => ?_); rw [hcut] at hr37; rw [hqx]))) <;> (try ((refine o_callH (cloneR _ a37 x _ (by omega)) (by first | exact True.intro | (show _ < _; decide)) rfl rfl (fun y hy => ?_); obtain ⟨ya, yc⟩ := y))) <;> (try (first | refine o_as (v := .slice _ _ _) (by decide) rfl ?_ | refine o_as (by decide) rfl ?_)) <;> (try (first | refine o_as (v := .int _ _) (by decide) rfl ?_ | refine o_as (by decide) rfl ?_)) <;> (try (refine ops_nilk ?_; intro _)) <;> (try ((first | refine keep_cons (v := .slice _ _ _) rfl ?_ | refine keep_cons (v := _) rfl ?_) <;> (first | refine keep_cons (v := .int _ _) rfl ?_ | refine keep_cons (v := _) rfl ?_))) <;> (try refine keep_nil ?_))) | refine wC ?_ | (refine ex_split rfl ?_ ?_ <;> intro hc))
    refine fin (.inr rfl) (ya, yc) (resl2 rfl (rv_tmp rfl) (rv_tmp rfl)) hy ?_
    exact Ent.trans ent_take (Ent.frameL (ce_mk (rb := rb) (pb := pb) (mb := mb) (oa := oa) (ocp := ocp) (qa := qa) (ra := ra) (ta := ta) h1 h2 h3) _)
set_option maxHeartbeats 16000000 in
theorem ceTwin {X H : HP} (b : Nat) (c : Cd) [t : Take (CE b c) X H] {n : Nat} (hok : CdOk c n) (hn : n ≤ 10000) :
    Spec Tryz.prog 42 [.pointer (some ⟨b, 0, none⟩)] X (X := Nat) (fun y => .pointer (some ⟨y, 0, none⟩)) (fun _ => True) (fun y => CE y c * (CE b c * H)) := by
  obtain ⟨le, sp, re, q, run, id, rows, taken⟩ := c
  obtain ⟨k1, k2, k3, k4, k5, k6, k7, k8⟩ := hok
  simp only at k1 k2 k3 k4 k5 k6 k7 k8
  rw [t.eq]
  refine ce_open fun rb pb mb oa ocp qa qc ra rc ta tc h1 h2 h3 => ?_
  refine spec_of Tryz.func42 rfl Tryz.ntmps42 rfl ?_
  repeat' (first | (refine rG 0 [0] ?_; ((try (refine wK ?_; intro _)))) | (refine ex_regk (id := 1) (ts := [0, 3]) ?_; ((try (first | refine o_mv (v := .pointer _) (by decide) rfl ?_ | refine o_mv (by decide) rfl ?_)) <;> (try (first | refine o_nil (by decide) rfl ?_ | refine o_nil_func (by decide) rfl ?_)) <;> (try (refine o_load_a (vs := [.int .i64 le, .int .i64 sp, .int .i64 re, .slice qa q.length qc, .pointer (some ⟨rb, 0, none⟩), .int .i64 id, .slice ra rows.length rc, .slice ta taken.length tc]) (by decide) rfl rfl ?_)) <;> (try ((refine o_alloc_a (by decide) (fun b3 => ?_)))) <;> (try (first | refine o_store_a rfl rfl rfl rfl rfl ?_ | refine o_store_oa rfl rfl rfl (Nat.succ_pos _) rfl (by assumption) ?_)) <;> (try (refine ops_nilk ?_; intro _)) <;> (try ((first | refine keep_cons (v := .pointer _) rfl ?_ | refine keep_cons (v := _) rfl ?_) <;> (first | refine keep_cons (v := .pointer _) rfl ?_ | refine keep_cons (v := _) rfl ?_))) <;> (try refine keep_nil ?_))) | refine wC ?_ | (refine ex_split rfl ?_ ?_ <;> intro hc))
  refine Ex.ent ?_ (ent_clL (b := b3) (l' := [.int .i64 le, .int .i64 sp, .int .i64 re, .slice qa q.length qc, .pointer (some ⟨rb, 0, none⟩), .int .i64 id, .slice ra rows.length rc, .slice ta taken.length tc]) rfl)
  repeat' (first | (refine rG 2 [0, 3] ?_; ((try refine wO ?_) <;> (try ((refine o_callH (queSplit _ qa q qc (by omega)) (by first | exact True.intro | (show _ < _; decide)) rfl rfl (fun y hq => ?_); obtain ⟨qa2, qc2⟩ := y))) <;> (try (refine wK ?_; intro _)))) | (refine rG 3 [0, 3] ?_; ((try refine wO ?_) <;> (try ((refine o_callH (ruTwin rb pb mb oa ocp run k1) (by first | exact True.intro | (show _ < _; decide)) rfl rfl (fun y hy => ?_); obtain ⟨rb2, pb2, mb2, oa2, ocp2⟩ := y))) <;> (try (refine wK ?_; intro _)))) | (refine rG 4 [3] ?_; ((try refine wO ?_) <;> (try ((refine o_callH (cloneR _ ra rows rc (by omega)) (by first | exact True.intro | (show _ < _; decide)) rfl rfl (fun y hr => ?_); obtain ⟨ra2, rc2⟩ := y))) <;> (try refine wO ?_) <;> (try ((refine o_callH (ceTaken b _ _ _ _ _ _ _ ta taken tc _ (by omega)) (by first | exact True.intro | (show _ < _; decide)) rfl rfl (fun y ht => ?_); obtain ⟨ta2, tc2⟩ := y))) <;> (try (refine wK ?_; intro _)))) | (refine rG 5 [2] ?_; ((try (refine wK ?_; intro _)))) | refine wC ?_ | (refine ex_split rfl ?_ ?_ <;> intro hc))
  refine fin (.inr rfl) b3 (resl1 rfl (rv_tmp rfl)) trivial ?_
  refine Ent.trans (ent_clL (b := b3) (l' := [.int .i64 le, .int .i64 sp, .int .i64 re, .slice qa2 q.length qc2, .pointer (some ⟨rb2, 0, none⟩), .int .i64 id, .slice ra2 rows.length rc2, .slice ta2 taken.length tc2]) rfl) ?_
  refine Ent.trans (ent_fz (a := qa2) (m := q.length) (cap := qc2) (l := q.flatMap inc) (el := 39) (sz := 5)) ?_
  refine Ent.trans ?_ (ce_mk (rb := rb2) (pb := pb2) (mb := mb2) (oa := oa2) (ocp := ocp2) (qa := qa2) (qc := qc2) (ra := ra2) (rc := rc2) (ta := ta2) (tc := tc2) hq hr ht)
  refine Ent.trans ?_ (Ent.frameL (Ent.frameL (Ent.frameL (Ent.frameL (Ent.frameL (ce_mk (rb := rb) (pb := pb) (mb := mb) (oa := oa) (ocp := ocp) (qa := qa) (ra := ra) (ta := ta) h1 h2 h3) _) _) _) _) _)
  exact ent_take
end Go.Proofs.YtcelailgedndnaaGreatS
namespace Go.Proofs.YtcelailgedndnaaGreatS.Bd
open Go.Proofs.YtcelailgedndnaaGreatS
open Go.RowKit
set_option linter.unusedVariables false
set_option linter.unusedSimpArgs false
abbrev br0 : Br := (none, 0, [])
abbrev bs0 : List Br := [br0, br0, br0, br0, br0, br0, br0, br0]
theorem bow0 (H : HP) : Ent H (bow br0 * H) := Ent.ow_none 79 4 H
theorem bm0 (H : HP) : Ent H (bm bs0 * H) := by
  show Ent H ((bow br0 * (bow br0 * (bow br0 * (bow br0 * (bow br0 * (bow br0 * (bow br0 * (bow br0 * 1)))))))) * H)
  simp only [sep_assoc, one_sep]
  exact (bow0 H).trans ((bow0 _).trans ((bow0 _).trans ((bow0 _).trans ((bow0 _).trans ((bow0 _).trans ((bow0 _).trans (bow0 _)))))))
set_option linter.unusedVariables false
set_option linter.unusedSimpArgs false
attribute [local irreducible] Ops Ex Spec T V QO OA Rn OS
theorem new_ (H : HP) : Spec Tryz.prog 38 [] H (X := Nat) (fun b => .pointer (some ⟨b, 0, none⟩)) (fun _ => True) (fun b => cl true b (bs0.map bcell) 146 (0, 0) * (bm bs0 * H)) := by
  refine spec_of Tryz.func38 rfl Tryz.ntmps38 rfl ?_
  refine Ex.ent ?_ (bm0 H)
  repeat' (first | (refine rG 0 [] ?_; ((try (refine wK ?_; intro _)))) | (refine ex_regk (id := 1) (ts := [0]) ?_; ((try (refine o_build (cells := bs0.map bcell) (by decide) rfl ?_)) <;> (try ((refine o_box (by decide) (v := .agg (List.toArray _)) rfl rfl (fun b2 => ?_)))) <;> (try (first | refine o_as (v := .pointer _) (by decide) rfl ?_ | refine o_as (by decide) rfl ?_)) <;> (try (refine ops_nilk ?_; intro _)) <;> (try ((first | refine keep_cons (v := .pointer _) rfl ?_ | refine keep_cons (v := _) rfl ?_))) <;> (try refine keep_nil ?_))) | refine wC ?_ | (refine ex_split rfl ?_ ?_ <;> intro hc))
  exact fin (.inr rfl) b2 (resl1 rfl (rv_tmp rfl)) trivial (Ent.refl _)
set_option maxHeartbeats 8000000 in
theorem twin (b : Nat) (H : HP) (bs : List Br) (h8 : bs.length = 8) (hl : ∀ i (h : i < bs.length), (bs[i]).2.2.length ≤ 1000000) (hrd : ∀ i (h : i < bs.length), RdC H (bs[i]).1 ((bs[i]).2.2.flatMap lc)) [hb : RdC H (some ⟨b, 0, none⟩) (bs.map bcell)] :
    Spec Tryz.prog 56 [.pointer (some ⟨b, 0, none⟩)] H (X := Nat × List Br) (fun y => .pointer (some ⟨y.1, 0, none⟩)) (fun y => y.2.length = 8 ∧ ∀ i (h : i < bs.length) (h' : i < y.2.length), (y.2[i]).2.2 = (bs[i]).2.2 ∧ (y.2[i]).2.2.length ≤ (y.2[i]).2.1) (fun y => cl true y.1 (y.2.map bcell) 146 (0, 0) * (bm y.2 * H)) := by
  have hsub : sub (bs.map bcell) 0 8 = some (bs.map bcell) := by
    have hb8 : (bs.map bcell).length = 8 := by rw [List.length_map]; exact h8
    unfold sub; rw [if_pos (by omega), List.drop_zero, ← hb8, List.take_length]
  refine spec_of Tryz.func56 rfl Tryz.ntmps56 rfl ?_
  repeat' (first | (refine rG 0 [0] ?_; ((try (refine wK ?_; intro _)))) | (refine rG 1 [0, 3] ?_; ((try (refine o_callH (new_ _) (by first | exact True.intro | (show _ < _; decide)) rfl rfl (fun b2 _ => ?_))) <;> (try (refine wK ?_; intro _)))) | (refine ex_regk (id := 2) (ts := [3, 10, 11]) ?_; ((try (first | refine o_mv (v := .pointer _) (by decide) rfl ?_ | refine o_mv (by decide) rfl ?_)) <;> (try (first | refine o_nil (by decide) rfl ?_ | refine o_nil_func (by decide) rfl ?_)) <;> (try (refine o_fieldAddr' (by decide) rfl ?_)) <;> (try (refine o_load_ra (ad := ⟨b, 0, none⟩) (j := 0) (vs := bs.map bcell) (by decide) (by rw [add_none]; rfl) hsub ?_)) <;> (try (first | refine o_mv (v := .int _ _) (by decide) rfl ?_ | refine o_mv (by decide) rfl ?_)) <;> (try (refine ops_nilk ?_; intro _)) <;> (try ((first | refine keep_cons (v := .pointer _) rfl ?_ | refine keep_cons (v := _) rfl ?_) <;> (first | refine keep_cons (v := .agg (List.toArray _)) rfl ?_ | refine keep_cons (v := _) rfl ?_) <;> (first | refine keep_cons (v := .int _ _) rfl ?_ | refine keep_cons (v := _) rfl ?_))) <;> (try refine keep_nil ?_))) | refine wC ?_ | (refine ex_split rfl ?_ ?_ <;> intro hc))
  refine ex_loopE (fun mm e H' => ∃ G, ∃ j : Nat, ∃ bj : List Br, e = put (put (put G 3 (.pointer (some ⟨b2, 0, none⟩))) 10 (.agg (bs.map bcell).toArray)) 11 (.int .i64 (j : Int)) ∧ H' = cl true b2 (bj.map bcell) 146 (0, 0) * (bm bj * H) ∧ j ≤ 8 ∧ mm = 8 - j ∧ bj.length = 8 ∧
    (∀ i (h : i < bs.length) (h' : i < bj.length), i < j → (bj[i]).2.2 = (bs[i]).2.2 ∧ (bj[i]).2.2.length ≤ (bj[i]).2.1)) (m := 8) ⟨_, 0, bs0, rfl, rfl, by omega, rfl, rfl, fun i h h' hj => absurd hj (by omega)⟩ (Ent.refl _) ?_
  rintro mm e H' ⟨G, j, bj, rfl, rfl, hj, rfl, hbl, hp⟩
  by_cases hj8 : j < 8
  · have d12 : decide ((j : Int) < 8) = true := decide_eq_true (by omega)
    have h0 : 0 ≤ (j : Int) := by omega
    have h1 : (j : Int) < 8 := by omega
    have hjb : j < bj.length := by omega
    have hjs : j < bs.length := by omega
    have e22 : IntKind.i64.wrap ((j : Int) + 1) = ((j + 1 : Nat) : Int) := by rw [IntKind.wrap_i64]; omega
    have hv : (bs.map bcell)[(j : Int).toNat * 1]? = some (bcell bs[j]) := by rw [Int.toNat_natCast, Nat.mul_one, List.getElem?_map, List.getElem?_eq_getElem hjs]; rfl
    have hbj := bm_get bj j hjb
    have hset := bm_set bj j hjb
    have hcs := fun r => bcell_set bj j r hjb
    have hlj := hl j hjs
    have hrj := hrd j hjs
    have hidx : 0 + 0 + (j : Int).toNat * 1 = j := by rw [Int.toNat_natCast]; omega
    have hf : Nat.blt (0 + 0 + (j : Int).toNat * 1) (bj.map bcell).length = true := by rw [hidx, List.length_map, Nat.blt_eq]; exact hjb
    generalize hBm : bm (bj.eraseIdx j) = BM at *
    rw [hbj]
    generalize hRj : bs[j] = R at *
    obtain ⟨ra, rc, rl⟩ := R
    have hrj : RdC H ra (rl.flatMap lc) := hrj
    have hlj : rl.length ≤ 1000000 := hlj
    repeat' (first | (refine ex_regk (id := 3) (ts := [3, 10, 11, 12]) ?_; ((try ((refine o_int (by decide) rfl rfl rfl ?_; rw [d12]))) <;> (try (refine ops_nilk ?_; intro _)) <;> (try ((first | refine keep_cons (v := .pointer _) rfl ?_ | refine keep_cons (v := _) rfl ?_) <;> (first | refine keep_cons (v := .agg (List.toArray _)) rfl ?_ | refine keep_cons (v := _) rfl ?_) <;> (first | refine keep_cons (v := .int _ _) rfl ?_ | refine keep_cons (v := _) rfl ?_) <;> (first | refine keep_cons (v := _) rfl ?_))) <;> (try refine keep_nil ?_))) | (refine rG 4 [3, 4, 5, 10, 11] ?_; ((try refine wO ?_) <;> (try (refine o_idxS (v := bcell (ra, rc, rl)) (by decide) rfl rfl h0 (by omega) Tryz.underlying144 (fun _ => by kernel_rfl) (sz := 1) (fun _ => by kernel_rfl) hv ?_)) <;> (try (refine wK ?_; intro _)))) | (refine rA 5 [3, 10, 11] 8 ?_; (refine os_but 3 rfl ?_); ((refine lQ 0 ?_; ((refine lQ 1 ?_; ((refine lQ 2 ?_; ((refine lQ 4 ?_; ((refine lQ 5 ?_; ((refine oN 3 ?_ <;> ((refine o_callH (clone _ ra rl rc hlj) (by first | exact True.intro | (show _ < _; decide)) rfl rfl (fun y hy => ?_); obtain ⟨ya, yc⟩ := y)) <;> (refine os_nil ?_) <;> ((refine lQ 6 ?_; ((refine oN 7 ?_ <;> (refine o_store_s (v := bcell (ya, yc, rl)) rfl rfl rfl hf ?_) <;> (refine os_nil ?_) <;> ((refine dK ?_; intro _))))))))))))))))))) | (refine rG 6 [3, 10, 11] ?_; ((try (refine wK ?_; intro _)))) | refine wC ?_ | (refine ex_split rfl ?_ ?_ <;> intro hc))
    rw [e22, hidx, hcs]
    refine ⟨8 - (j + 1), by omega, _, ?_, _, j + 1, bj.set j (ya, yc, rl), rfl, rfl, by omega, rfl, by rw [List.length_set]; exact hbl, fun i h h' hij => ?_⟩
    · rw [hset, sep_assoc]; unfold bow; exact ent_take
    · by_cases hij2 : i = j
      · subst hij2
        rw [List.getElem_set_self]
        exact ⟨by rw [hRj], hy⟩
      · have hib : i < bj.length := by omega
        rw [List.getElem_set_ne (fun e => hij2 e.symm)]
        exact hp i h hib (by omega)
  · have hj8 : j = 8 := by omega
    subst hj8
    have d12 : decide (((8 : Nat) : Int) < 8) = false := rfl
    repeat' (first | (refine ex_regk (id := 3) (ts := [3, 10, 11, 12]) ?_; ((try ((refine o_int (by decide) rfl rfl rfl ?_; rw [d12]))) <;> (try (refine ops_nilk ?_; intro _)) <;> (try ((first | refine keep_cons (v := .pointer _) rfl ?_ | refine keep_cons (v := _) rfl ?_) <;> (first | refine keep_cons (v := .agg (List.toArray _)) rfl ?_ | refine keep_cons (v := _) rfl ?_) <;> (first | refine keep_cons (v := .int _ _) rfl ?_ | refine keep_cons (v := _) rfl ?_) <;> (first | refine keep_cons (v := _) rfl ?_))) <;> (try refine keep_nil ?_))) | (refine rG 7 [2] ?_; ((try (refine wK ?_; intro _)))) | refine wC ?_ | (refine ex_split rfl ?_ ?_ <;> intro hc))
    exact fin (.inr rfl) (b2, bj) (resl1 rfl (rv_tmp rfl)) ⟨hbl, fun i h h' => hp i h h' (by omega)⟩ (Ent.refl _)
end Go.Proofs.YtcelailgedndnaaGreatS.Bd
namespace Go.Proofs.YtcelailgedndnaaGreatS
open Go.RowKit
set_option linter.unusedVariables false
set_option linter.unusedSimpArgs false
theorem o_nePN {P : Program} {n : Nat} {ops : Array Oper} {rest : List Oper} {e : Env} {H : HP} {Φ : Post} {d : Nat} {ty : TypeId} {ps : String} {af : Array Edge} {x : Operand} {p : Option Addr} {t u : TypeId} (hd : d < n) (hx : ev e x = .pointer p) (hu : P.underlying t = some (.pointer (P.pointee t))) (k : Ops P n ops rest (put e d (.bool p.isSome)) H Φ) :
    Ops P n ops (⟨some d, .binOp .neq t x (.const (.pointer none)) u, ty, ps, af, none⟩ :: rest) e H Φ :=
  o_rfl hd (fun w => by
    have hc : ev e (.const (.pointer none)) = .pointer none := rfl
    have hg : ∀ w, (eqGuard .neq t x (.const (.pointer none)) (.pointer p) (.pointer none)).run P w = .ok () w := fun _ => rfl
    simp only [execOp, hx, hc, Sem.run_bind, hg, run_neq_pointer_nil w t p hu, Result.andThen_ok]
    cases p <;> rfl) k
/-- The cells with their places. -/
abbrev Cl : Type := List (Option (Nat × Cd))
def pv : Option (Nat × Cd) → Value
  | none => .pointer none
  | some y => .pointer (some ⟨y.1, 0, none⟩)
theorem list8 {α : Type} {l : List α} (h : l.length = 8) : ∃ a b c d e f g i, l = [a, b, c, d, e, f, g, i] := by
  match l, h with
  | [a, b, c, d, e, f, g, i], _ => exact ⟨a, b, c, d, e, f, g, i, rfl⟩
def coc (bu ro qu ti : Int) (sa : Option Addr) (ns sc_ : Nat) (L : Cl) (pa : Option Addr) (np pc_ : Nat) (bb : Nat) : List Value :=
  [.int .i64 bu, .int .i64 ro, .int .i64 qu, .slice sa ns sc_] ++ (L.map pv ++ [.slice pa np pc_, .pointer (some ⟨bb, 0, none⟩), .int .i64 ti])
def lk (L : Cl) (t : Int) : Option (Nat × Cd) := if 0 ≤ t ∧ t ≤ 7 then (L[t.toNat]?).getD none else none
theorem coc_get {bu ro qu ti : Int} {sa : Option Addr} {ns sc_ : Nat} {L : Cl} {pa : Option Addr} {np pc_ bb : Nat} {t : Nat} (h : t < L.length) {o : Nat} (ho : o = 4 + t) :
    (coc bu ro qu ti sa ns sc_ L pa np pc_ bb)[o]? = some (pv L[t]) := by
  subst ho
  unfold coc
  rw [List.getElem?_append_right (by simp)]
  simp only [List.length_cons, List.length_nil]
  rw [show 4 + t - (0 + 1 + 1 + 1 + 1) = t by omega, List.getElem?_append_left (by simpa using h), List.getElem?_map, List.getElem?_eq_getElem h]; rfl
theorem coc_set {bu ro qu ti : Int} {sa : Option Addr} {ns sc_ : Nat} {L : Cl} {pa : Option Addr} {np pc_ bb : Nat} {t : Nat} (h : t < L.length) {o : Nat} (ho : o = 4 + t) (x : Option (Nat × Cd)) :
    spl (coc bu ro qu ti sa ns sc_ L pa np pc_ bb) o [pv x] = coc bu ro qu ti sa ns sc_ (L.set t x) pa np pc_ bb := by
  subst ho
  rw [Bd.spl_set _ _ _ (by unfold coc; simp; omega)]
  unfold coc
  rw [List.set_append_right _ _ (by simp), List.set_append_left _ _ (by simp; omega)]
  simp only [List.length_cons, List.length_nil]
  rw [show 4 + t - (0 + 1 + 1 + 1 + 1) = t by omega, List.map_set]
set_option linter.unusedVariables false
set_option linter.unusedSimpArgs false
attribute [local irreducible] Ops Ex Spec T V QO OA Rn OS
def CEs : Cl → HP
  | [] => 1
  | none :: l => CEs l
  | some y :: l => CE y.1 y.2 * CEs l
theorem CEs_get : ∀ (L : Cl) (t : Nat) (y : Nat × Cd), L[t]? = some (some y) → CEs L = CE y.1 y.2 * CEs (L.set t none)
  | [], _, _, h => by simp at h
  | x :: L, 0, y, h => by
    have : x = some y := by simpa using h
    subst this; rfl
  | none :: L, t + 1, y, h => CEs_get L t y (by simpa using h)
  | some x :: L, t + 1, y, h => by
    show CE x.1 x.2 * CEs L = CE y.1 y.2 * (CE x.1 x.2 * CEs (L.set t none))
    rw [CEs_get L t y (by simpa using h), sep_left_comm]
theorem CEs_none : ∀ (L : Cl) (t : Nat), L[t]? = some none → CEs (L.set t none) = CEs L
  | [], _, h => by simp at h
  | x :: L, 0, h => by
    have : x = none := by simpa using h
    subst this; rfl
  | none :: L, t + 1, h => CEs_none L t (by simpa using h)
  | some x :: L, t + 1, h => by
    show CE x.1 x.2 * CEs (L.set t none) = CE x.1 x.2 * CEs L
    rw [CEs_none L t (by simpa using h)]
theorem CEs_set (L : Cl) (t : Nat) (h : t < L.length) (y : Nat × Cd) : CEs (L.set t (some y)) = CE y.1 y.2 * CEs (L.set t none) := by
  have h2 := CEs_get (L.set t (some y)) t y (by simp [h])
  rw [h2, List.set_set]
/-- Where a core's parts lie. -/
structure Oa where
  sa : Option Addr
  sc : Nat
  L : Cl
  pa : Option Addr
  pc : Nat
  bb : Nat
  bs : List Bd.Br
/-- A core in memory, its parts' places told. -/
def COr (b : Nat) (bu ro qu : Int) (sinks : List Sk) (sa : Option Addr) (sc_ : Nat) (L : Cl) (pots : List (Int × Pt)) (pa : Option Addr) (pc_ : Nat) (bb : Nat) (bs : List Bd.Br) (ti : Int) : HP :=
  cl true b (coc bu ro qu ti sa sinks.length sc_ L pa pots.length pc_ bb) 102 (0, 0) * (rs sa (sinks.flatMap sc) * (CEs L * (ow 108 4 pa pots.length pc_ (pots.flatMap potc) * (cl true bb (bs.map Bd.bcell) 146 (0, 0) * Bd.bm bs))))
theorem COr_flat (b : Nat) (bu ro qu : Int) (sinks : List Sk) (sa : Option Addr) (sc_ : Nat) (L : Cl) (pots : List (Int × Pt)) (pa : Option Addr) (pc_ : Nat) (bb : Nat) (bs : List Bd.Br) (ti : Int) (H : HP) : COr b bu ro qu sinks sa sc_ L pots pa pc_ bb bs ti * H =
    cl true b (coc bu ro qu ti sa sinks.length sc_ L pa pots.length pc_ bb) 102 (0, 0) * (rs sa (sinks.flatMap sc) * (CEs L * (ow 108 4 pa pots.length pc_ (pots.flatMap potc) * (cl true bb (bs.map Bd.bcell) 146 (0, 0) * (Bd.bm bs * H))))) := by
  unfold COr; simp only [sep_assoc]
structure OaOk (s : Cs) (y : Oa) : Prop where
  l8 : y.L.length = 8
  cells : y.L.map (fun x => x.map (·.2)) = s.cells
  pc : s.pots.length ≤ y.pc
  sc : s.sinks.length ≤ y.sc
  b8 : y.bs.length = 8
  told : y.bs.map (·.2.2) = s.told
  tc : ∀ i (h : i < y.bs.length), (y.bs[i]).2.2.length ≤ (y.bs[i]).2.1
/-- A core in memory. -/
def CO (b : Nat) (s : Cs) : HP := exh fun y : Oa => pu (OaOk s y) * COr b s.bu s.ro s.qu s.sinks y.sa y.sc y.L s.pots y.pa y.pc y.bb y.bs s.ticks
theorem co_open {b : Nat} {s : Cs} {H : HP} {f : FuncId} {args : List Value} {X : Type} {val : X → Value} {pr : X → Prop} {res : X → HP}
    (h : ∀ sa sc_ L pa pc_ bb bs, OaOk s ⟨sa, sc_, L, pa, pc_, bb, bs⟩ → Spec Tryz.prog f args (COr b s.bu s.ro s.qu s.sinks sa sc_ L s.pots pa pc_ bb bs s.ticks * H) val pr res) :
    Spec Tryz.prog f args (CO b s * H) val pr res := by
  refine Spec.exh fun y => ?_
  rw [sep_assoc]
  refine Spec.pu fun hy => ?_
  obtain ⟨sa, sc_, L, pa, pc_, bb, bs⟩ := y
  exact h sa sc_ L pa pc_ bb bs hy
theorem co_mk {b : Nat} {s : Cs} {H : HP} {sa : Option Addr} {sc_ : Nat} {L : Cl} {pa : Option Addr} {pc_ bb : Nat} {bs : List Bd.Br} (h : OaOk s ⟨sa, sc_, L, pa, pc_, bb, bs⟩) : Ent (COr b s.bu s.ro s.qu s.sinks sa sc_ L s.pots pa pc_ bb bs s.ticks * H) (CO b s * H) :=
  (Ent.trans (Ent.pure h) (Ent.ex (A := fun y : Oa => pu (OaOk s y) * COr b s.bu s.ro s.qu s.sinks y.sa y.sc y.L s.pots y.pa y.pc y.bb y.bs s.ticks) ⟨sa, sc_, L, pa, pc_, bb, bs⟩)).frame H
theorem coWithin (n lo hi : Int) : Spec Tryz.prog 63 [.int .i64 n, .int .i64 lo, .int .i64 hi] 1 (X := Unit) (fun _ => .bool (decide (n ≥ lo) && decide (n ≤ hi))) (fun _ => True) (fun _ => 1) := by
  refine spec_of Tryz.func63 rfl Tryz.ntmps63 rfl ?_
  repeat' (first | (refine rG 0 [0, 1, 2] ?_; ((try (refine wK ?_; intro _)))) | (refine rG 1 [6] ?_; ((try refine wO ?_) <;> (repeat' (refine g_split rfl (by decide) rfl (by decide) ?_ ?_ <;> intro hc <;> (try refine wO ?_))) <;> (try (refine wK ?_; intro _)))) | refine wC ?_ | (refine ex_split rfl ?_ ?_ <;> intro hc))
  all_goals exact fin (.inr rfl) () (resl1 rfl (rv_tmp (by simp only [*]; rfl))) trivial (Ent.toOne _)
theorem coWithinV {n lo hi : Int} {v : Bool} (h : (decide (n ≥ lo) && decide (n ≤ hi)) = v) : Spec Tryz.prog 63 [.int .i64 n, .int .i64 lo, .int .i64 hi] 1 (X := Unit) (fun _ => .bool v) (fun _ => True) (fun _ => 1) := h ▸ coWithin n lo hi
theorem coRight (H : HP) (a : Option Addr) (l : List Sk) (cap : Nat) (bu ro qu : Int) [hr : RdC H a (l.flatMap sc)] (hl : l.length ≤ 1000000) (h : rightS bu ro qu l = true) :
    Spec Tryz.prog 36 [.agg (List.toArray [.int .i64 bu, .int .i64 ro, .int .i64 qu, .slice a l.length cap])] H (X := Unit) (fun _ => .bool true) (fun _ => True) (fun _ => H) := by
  unfold rightS at h
  simp only [Bool.and_eq_true] at h
  obtain ⟨⟨⟨⟨h1, h2⟩, h3, h4⟩, h5, h6⟩, h7, h8⟩ := h
  have w1 : (decide (bu ≥ 1) && decide (bu ≤ 8)) = true := by rw [show decide (bu ≥ 1) = true from h1, h2]; rfl
  have w2 : (decide (ro ≥ 1) && decide (ro ≤ 16)) = true := by rw [show decide (ro ≥ 1) = true from h3, h4]; rfl
  have w3 : (decide (qu ≥ 0) && decide (qu ≤ 4000)) = true := by rw [show decide (qu ≥ 0) = true from h5, h6]; rfl
  have hs := fun (H' : HP) (hh : RdC H' a (l.flatMap sc)) => R.rsinks H' a l l.length cap (hr := hh) rfl rfl hl
  rw [h7, h8] at hs
  refine spec_of Tryz.func36 rfl Tryz.ntmps36 rfl ?_
  repeat' (first | (refine rG 0 [1] ?_; ((try ((refine o_box (by decide) (v := .agg (List.toArray _)) rfl rfl (fun _ => ?_)))) <;> (try (refine wK ?_; intro _)))) | (refine rG 1 [2] ?_; ((try refine wO ?_) <;> (try (refine o_call (coWithinV w1) (by first | exact True.intro | (show _ < _; decide)) rfl rfl (fun _ _ => ?_))) <;> (try refine wO ?_) <;> (repeat' (refine g_split rfl (by decide) rfl (by decide) ?_ ?_ <;> intro hc <;> (try refine wO ?_))) <;> (try (refine o_call (coWithinV w2) (by first | exact True.intro | (show _ < _; decide)) rfl rfl (fun _ _ => ?_))) <;> (try refine wO ?_) <;> (repeat' (refine g_split rfl (by decide) rfl (by decide) ?_ ?_ <;> intro hc <;> (try refine wO ?_))) <;> (try (refine o_call (coWithinV w3) (by first | exact True.intro | (show _ < _; decide)) rfl rfl (fun _ _ => ?_))) <;> (try refine wO ?_) <;> (repeat' (refine g_split rfl (by decide) rfl (by decide) ?_ ?_ <;> intro hc <;> (try refine wO ?_))) <;> (try (refine o_callH (hs _ inferInstance) (by first | exact True.intro | (show _ < _; decide)) rfl rfl (fun _ _ => ?_))) <;> (try (refine wK ?_; intro _)))) | refine wC ?_ | (refine ex_split rfl ?_ ?_ <;> intro hc))
  exact fin (.inr rfl) () (resl1 rfl (rv_tmp rfl)) trivial ent_take
theorem coAt (b : Nat) (bu ro qu ti : Int) (sa : Option Addr) (ns sc_ : Nat) (L : Cl) (pa : Option Addr) (np pc_ bb : Nat) (t : Int) (ty) (h8 : L.length = 8) {v : Option (Nat × Cd)} (hv : lk L t = v) :
    Spec Tryz.prog 41 [.pointer (some ⟨b, 0, none⟩), .int .i64 t] (cl true b (coc bu ro qu ti sa ns sc_ L pa np pc_ bb) ty (0, 0)) (X := Unit) (fun _ => pv v) (fun _ => True) (fun _ => cl true b (coc bu ro qu ti sa ns sc_ L pa np pc_ bb) ty (0, 0)) := by
  subst hv
  by_cases h : 0 ≤ t ∧ t ≤ 7
  · have hw : (decide (t ≥ 0) && decide (t ≤ 7)) = true := by rw [decide_eq_true (show t ≥ 0 from h.1), decide_eq_true h.2]; rfl
    obtain ⟨k, rfl⟩ : ∃ k : Nat, t = (k : Int) := ⟨t.toNat, by omega⟩
    have hk : k < L.length := by omega
    have e : lk L (k : Int) = L[k] := by unfold lk; rw [if_pos h, Int.toNat_natCast, List.getElem?_eq_getElem hk]; rfl
    have h0 : 0 ≤ (k : Int) := by omega
    have h1 : (k : Int) < 8 := by omega
    have hget := coc_get (bu := bu) (ro := ro) (qu := qu) (ti := ti) (sa := sa) (ns := ns) (sc_ := sc_) (pa := pa) (np := np) (pc_ := pc_) (bb := bb) hk (o := 0 + 4 + (k : Int).toNat * 1) (by rw [Int.toNat_natCast]; omega)
    rw [e]
    refine spec_of Tryz.func41 rfl Tryz.ntmps41 rfl ?_
    repeat' (first | (refine rG 0 [0, 1] ?_; ((try (refine wK ?_; intro _)))) | (refine rG 1 [0, 1, 7] ?_; ((try refine wO ?_) <;> (try (refine o_call (coWithinV hw) (by first | exact True.intro | (show _ < _; decide)) rfl rfl (fun _ _ => ?_))) <;> (try (refine wK ?_; intro _)))) | (refine ex_regk (id := 3) (ts := [4]) ?_; ((try (first | refine o_mv (v := .pointer _) (by decide) rfl ?_ | refine o_mv (by decide) rfl ?_)) <;> (try (first | refine o_mv (v := .int _ _) (by decide) rfl ?_ | refine o_mv (by decide) rfl ?_)) <;> (try (first | refine o_nil (by decide) rfl ?_ | refine o_nil_func (by decide) rfl ?_)) <;> (try (refine o_fieldAddr' (by decide) rfl ?_)) <;> (try (refine o_indexA (by decide) rfl rfl (by first | decide | assumption | omega) (by first | decide | assumption | omega) ?_)) <;> (try (refine o_load_s (by decide) rfl hget ?_)) <;> (try (first | refine o_as (v := .pointer _) (by decide) rfl ?_ | refine o_as (by decide) rfl ?_)) <;> (try (refine ops_nilk ?_; intro _)) <;> (try ((first | refine keep_cons (v := .pointer _) rfl ?_ | refine keep_cons (v := _) rfl ?_))) <;> (try refine keep_nil ?_))) | refine wC ?_ | (refine ex_split rfl ?_ ?_ <;> intro hc))
    exact fin (.inr rfl) () (resl1 rfl (rv_tmp rfl)) trivial ent_take
  · have hw : (decide (t ≥ 0) && decide (t ≤ 7)) = false := by
      rcases Decidable.not_and_iff_or_not.1 h with h | h
      · rw [decide_eq_false (show ¬ t ≥ 0 from h)]; rfl
      · rw [decide_eq_false h, Bool.and_false]
    have e : lk L t = none := by unfold lk; rw [if_neg h]
    rw [e]
    refine spec_of Tryz.func41 rfl Tryz.ntmps41 rfl ?_
    repeat' (first | (refine rG 0 [0, 1] ?_; ((try (refine wK ?_; intro _)))) | (refine rG 1 [0, 1, 7] ?_; ((try refine wO ?_) <;> (try (refine o_call (coWithinV hw) (by first | exact True.intro | (show _ < _; decide)) rfl rfl (fun _ _ => ?_))) <;> (try (refine wK ?_; intro _)))) | (refine rG 2 [4] ?_; ((try (refine wK ?_; intro _)))) | refine wC ?_ | (refine ex_split rfl ?_ ?_ <;> intro hc))
    exact fin (.inr rfl) () (resl1 rfl (rv_tmp rfl)) trivial ent_take
end Go.Proofs.YtcelailgedndnaaGreatS
namespace Go.Proofs.YtcelailgedndnaaGreatS
open Go.RowKit
set_option linter.unusedVariables false
set_option linter.unusedSimpArgs false
def acc (oa : Option Addr) (ocp : Nat) (a : Ac) : List Value := [.int .i64 a.1, .int .i64 a.2.1, .int .i64 a.2.2.1, .int .i64 a.2.2.2.1] ++ (ppc oa ocp a.2.2.2.2.1 ++ inc a.2.2.2.2.2)
theorem acc_len (oa : Option Addr) (ocp : Nat) (a : Ac) : (acc oa ocp a).length = 15 := rfl
theorem lk_cell {L : Cl} {s : Cs} (h : L.map (fun x => x.map (·.2)) = s.cells) (t : Int) : (lk L t).map (·.2) = cellI s t := by
  unfold lk cellI cell
  by_cases h2 : 0 ≤ t ∧ t ≤ 7
  · rw [if_pos h2, if_pos h2, ← h, List.getElem?_map]
    cases L[t.toNat]? <;> rfl
  · rw [if_neg h2, if_neg h2]; rfl
theorem pir_len {p : Pp} (h : pir p = true) : p.1.length ≤ 6 := by
  unfold pir R.pipr at h
  simp only [Bool.and_eq_true, decide_eq_true_eq] at h
  exact h.1.1.1.1.1
theorem mayP_pir {id : Int} {p : Pp} {ss : List Sk} (h : mayP id p ss = true) : pir p = true ∧ 0 ≤ id ∧ id < 8 := by
  unfold mayP R.mayF at h
  simp only [Bool.and_eq_true, decide_eq_true_eq] at h
  exact ⟨h.1.1.2, h.1.1.1.1, h.1.1.1.2⟩
theorem oaOk_set {s : Cs} {sa : Option Addr} {sc_ : Nat} {L : Cl} {pa : Option Addr} {pc_ bb : Nat} {bs : List Bd.Br} (ok : OaOk s ⟨sa, sc_, L, pa, pc_, bb, bs⟩) (t : Nat) (x : Option (Nat × Cd)) : OaOk { s with cells := s.cells.set t (x.map (·.2)) } ⟨sa, sc_, L.set t x, pa, pc_, bb, bs⟩ where
  l8 := by show (L.set t x).length = 8; rw [List.length_set]; exact ok.l8
  cells := by show (L.set t x).map _ = s.cells.set t _; rw [List.map_set]; congr 1; exact ok.cells
  pc := ok.pc
  sc := ok.sc
  b8 := ok.b8
  told := ok.told
  tc := ok.tc
theorem lk_none {L : Cl} {t : Int} (h8 : L.length = 8) (h7 : 0 ≤ t ∧ t ≤ 7) (h : lk L t = none) : L[t.toNat]? = some none := by
  unfold lk at h
  rw [if_pos h7] at h
  have hlt : t.toNat < L.length := by omega
  rw [List.getElem?_eq_getElem hlt] at h ⊢
  exact congrArg some h
theorem lk_some {L : Cl} {t : Int} {y : Nat × Cd} (h8 : L.length = 8) (h : lk L t = some y) : 0 ≤ t ∧ t ≤ 7 ∧ t.toNat < L.length ∧ L[t.toNat]? = some (some y) := by
  unfold lk at h
  by_cases h7 : 0 ≤ t ∧ t ≤ 7
  · rw [if_pos h7] at h
    have hlt : t.toNat < L.length := by omega
    rw [List.getElem?_eq_getElem hlt] at h ⊢
    exact ⟨h7.1, h7.2, hlt, congrArg some h⟩
  · rw [if_neg h7] at h; cases h
set_option linter.unusedVariables false
set_option linter.unusedSimpArgs false
attribute [local irreducible] Ops Ex Spec T V QO OA Rn OS
set_option maxHeartbeats 16000000 in
theorem coRegister {X H : HP} (b : Nat) (s : Cs) (a : Ac) (oa : Option Addr) (ocp : Nat) [t : Take (CO b s) X H] [hr : RdC H oa (a.2.2.2.2.1.1.flatMap oc)] (hl : a.2.2.2.2.1.1.length ≤ 1000000) (hs : s.sinks.length ≤ 4) :
    Spec Tryz.prog 66 [.pointer (some ⟨b, 0, none⟩), .agg (acc oa ocp a).toArray] X (X := Unit) (fun _ => .int .i64 (register a.2.1 a.2.2.2.2.1 s).2) (fun _ => True) (fun _ => CO b (register a.2.1 a.2.2.2.2.1 s).1 * H) := by
  obtain ⟨kd, tn, fr, nn, p, i⟩ := a
  have hl : p.1.length ≤ 1000000 := hl
  have hr : RdC H oa (p.1.flatMap oc) := hr
  show Spec _ _ _ _ (X := Unit) (fun _ => .int .i64 (register tn p s).2) (fun _ => True) (fun _ => CO b (register tn p s).1 * H)
  rw [t.eq]
  refine co_open fun sa sc_ L pa pc_ bb bs ok => ?_
  have hat := fun ty => coAt b s.bu s.ro s.qu s.ticks sa s.sinks.length sc_ L pa s.pots.length pc_ bb tn ty ok.l8 rfl
  have hcell := lk_cell ok.cells tn
  by_cases h7 : 0 ≤ tn ∧ tn ≤ 7
  · have hw : (decide (tn ≥ 0) && decide (tn ≤ 7)) = true := by rw [decide_eq_true (show tn ≥ 0 from h7.1), decide_eq_true h7.2]; rfl
    have hcI : cellI s tn = cell s tn.toNat := by unfold cellI; rw [if_pos h7]
    rw [hcI] at hcell
    cases hk : lk L tn with
    | some y =>
      rw [hk] at hcell hat
      have he : register tn p s = (s, 6) := by
        unfold register
        rw [if_neg (not_not_intro h7), ← hcell]; rfl
      rw [he]
      rw [COr_flat]
      refine spec_of Tryz.func66 rfl Tryz.ntmps66 rfl ?_
      repeat' (first | (refine rG 0 [0, 3] ?_; ((try ((refine o_box (by decide) (v := .agg (acc oa ocp (kd, tn, fr, nn, p, i)).toArray) rfl rfl (fun b3 => ?_)))) <;> (try (refine wK ?_; intro _)))) | refine ex_seq ?_ | refine ex_ret ?_ | refine ex_skip ?_ | refine ex_exit ?_ | refine ex_cond_t rfl ?_ | refine ex_cond_f rfl ?_ | refine ex_cond_t (congrArg Value.bool (by assumption)) ?_ | refine ex_cond_f (congrArg Value.bool (by assumption)) ?_ | (refine ex_split rfl ?_ ?_ <;> intro hc))
      repeat' (first | (refine rG 1 [0, 3, 5] ?_; ((try refine wO ?_) <;> (try (refine o_call (coWithinV hw) (by first | exact True.intro | (show _ < _; decide)) rfl rfl (fun _ _ => ?_))) <;> (try (refine wK ?_; intro _)))) | (refine rG 3 [0, 3, 10] ?_; ((try refine wO ?_) <;> (try (refine o_callB (by first | exact True.intro | (show _ < _; decide)) rfl rfl (hat _) (fun _ _ => ?_))) <;> (try (refine o_nePN (by decide) rfl (by kernel_rfl) ?_)) <;> (try (refine wK ?_; intro _)))) | (refine rG 4 [4] ?_; ((try (refine wK ?_; intro _)))) | refine wC ?_ | (refine ex_split rfl ?_ ?_ <;> intro hc))
      refine fin (.inr rfl) () (resl1 rfl (rv_tmp rfl)) trivial ?_
      refine Ent.trans ?_ (co_mk ok)
      rw [COr_flat]
      exact ent_take
    | none =>
      rw [hk] at hcell hat
      have hcn : (cell s tn.toNat).isSome = false := by rw [← hcell]; rfl
      have hmay := fun (H' : HP) (h1 : RdC H' oa (p.1.flatMap oc)) (h2 : RdC H' sa (s.sinks.flatMap sc)) => R.may H' tn oa sa p.1 s.sinks p.1.length ocp s.sinks.length sc_ p.2.1 p.2.2.1 p.2.2.2.1 p.2.2.2.2.1 p.2.2.2.2.2 (hr := h1) (hq := h2) rfl rfl hl rfl rfl (by omega)
      obtain ⟨x0, x1, x2, x3, x4, x5, x6, x7, hL⟩ := list8 ok.l8
      simp only at hL
      have hsub : sub (acc oa ocp (kd, tn, fr, nn, p, i)) 4 6 = some (ppc oa ocp p) := rfl
      cases hm : mayP tn p s.sinks with
      | false =>
        have hm2 : R.mayF tn p.1 p.2.1 p.2.2.1 p.2.2.2.1 p.2.2.2.2.1 p.2.2.2.2.2 s.sinks = false := hm
        rw [hm2] at hmay
        have he : register tn p s = (s, 1) := by
          unfold register
          rw [if_neg (not_not_intro h7), hcn, hm]; rfl
        rw [he]
        rw [COr_flat]
        refine spec_of Tryz.func66 rfl Tryz.ntmps66 rfl ?_
        repeat' (first | (refine rG 0 [0, 3] ?_; ((try ((refine o_box (by decide) (v := .agg (acc oa ocp (kd, tn, fr, nn, p, i)).toArray) rfl rfl (fun b3 => ?_)))) <;> (try (refine wK ?_; intro _)))) | refine ex_seq ?_ | refine ex_ret ?_ | refine ex_skip ?_ | refine ex_exit ?_ | refine ex_cond_t rfl ?_ | refine ex_cond_f rfl ?_ | refine ex_cond_t (congrArg Value.bool (by assumption)) ?_ | refine ex_cond_f (congrArg Value.bool (by assumption)) ?_ | (refine ex_split rfl ?_ ?_ <;> intro hc))
        repeat' (first | (refine rG 1 [0, 3, 5] ?_; ((try refine wO ?_) <;> (try (refine o_call (coWithinV hw) (by first | exact True.intro | (show _ < _; decide)) rfl rfl (fun _ _ => ?_))) <;> (try (refine wK ?_; intro _)))) | (refine rG 3 [0, 3, 10] ?_; ((try refine wO ?_) <;> (try (refine o_callB (by first | exact True.intro | (show _ < _; decide)) rfl rfl (hat _) (fun _ _ => ?_))) <;> (try (refine o_nePN (by decide) rfl (by kernel_rfl) ?_)) <;> (try (refine wK ?_; intro _)))) | refine wC ?_ | (refine ex_split rfl ?_ ?_ <;> intro hc))
        repeat' (first | (refine rA 5 [0, 3, 16] 12 ?_; (refine os_all ?_); ((refine lQ 0 ?_; ((refine lQ 1 ?_; ((refine lQ 2 ?_; ((refine lC (v := ?_) 3 ?_ ?_; rotate_left; (focus ((refine o_load_a (vs := ppc oa ocp p) (by decide) rfl hsub ?_) <;> exact lL)); ((refine lQ 4 ?_; ((refine lQ 5 ?_; ((refine lQ 6 ?_; ((refine lQ 7 ?_; ((refine lC (v := ?_) 8 ?_ ?_; rotate_left; (focus ((refine o_load_s (v := .slice sa s.sinks.length sc_) (by decide) rfl rfl ?_) <;> exact lL)); ((refine oN 9 ?_ <;> ((refine o_callH (hmay _ inferInstance inferInstance) (by first | exact True.intro | (show _ < _; decide)) rfl rfl (fun _ _ => ?_))) <;> (refine os_nil ?_) <;> ((refine lQ 10 ?_; ((refine lQ 11 ?_; ((refine dK ?_; intro _))))))))))))))))))))))))))) | (refine rG 6 [4] ?_; ((try (refine wK ?_; intro _)))) | refine wC ?_ | (refine ex_split rfl ?_ ?_ <;> intro hc))
        all_goals
          refine fin (.inr rfl) () (resl1 rfl (rv_tmp rfl)) trivial ?_
          refine Ent.trans ?_ (co_mk ok)
          rw [COr_flat]
          exact ent_take
      | true =>
        have hm2 : R.mayF tn p.1 p.2.1 p.2.2.1 p.2.2.2.1 p.2.2.2.2.1 p.2.2.2.2.2 s.sinks = true := hm
        rw [hm2] at hmay
        obtain ⟨hpi, hid0, hid8⟩ := mayP_pir hm
        have hp6 := pir_len hpi
        have he : register tn p s = ({ s with cells := s.cells.set tn.toNat (some (newCd tn s.qu p)) }, 0) := by
          unfold register
          rw [if_neg (not_not_intro h7), hcn, hm]; rfl
        rw [he]
        have h0 : 0 ≤ tn := h7.1
        have h1 : tn < 8 := hid8
        have hkL : tn.toNat < L.length := by have : L.length = 8 := ok.l8; omega
        have hset := fun x => coc_set (bu := s.bu) (ro := s.ro) (qu := s.qu) (ti := s.ticks) (sa := sa) (ns := s.sinks.length) (sc_ := sc_) (pa := pa) (np := s.pots.length) (pc_ := pc_) (bb := bb) hkL (o := 0 + 4 + tn.toNat * 1) (by omega) x
        have hblt : Nat.blt (0 + 4 + tn.toNat * 1) (coc s.bu s.ro s.qu s.ticks sa s.sinks.length sc_ L pa s.pots.length pc_ bb).length = true := by
          rw [Nat.blt_eq]; unfold coc; simp; omega
        rw [COr_flat]
        refine spec_of Tryz.func66 rfl Tryz.ntmps66 rfl ?_
        repeat' (first | (refine rG 0 [0, 3] ?_; ((try ((refine o_box (by decide) (v := .agg (acc oa ocp (kd, tn, fr, nn, p, i)).toArray) rfl rfl (fun b3 => ?_)))) <;> (try (refine wK ?_; intro _)))) | refine ex_seq ?_ | refine ex_ret ?_ | refine ex_skip ?_ | refine ex_exit ?_ | refine ex_cond_t rfl ?_ | refine ex_cond_f rfl ?_ | refine ex_cond_t (congrArg Value.bool (by assumption)) ?_ | refine ex_cond_f (congrArg Value.bool (by assumption)) ?_ | (refine ex_split rfl ?_ ?_ <;> intro hc))
        repeat' (first | (refine rG 1 [0, 3, 5] ?_; ((try refine wO ?_) <;> (try (refine o_call (coWithinV hw) (by first | exact True.intro | (show _ < _; decide)) rfl rfl (fun _ _ => ?_))) <;> (try (refine wK ?_; intro _)))) | (refine rG 3 [0, 3, 10] ?_; ((try refine wO ?_) <;> (try (refine o_callB (by first | exact True.intro | (show _ < _; decide)) rfl rfl (hat _) (fun _ _ => ?_))) <;> (try (refine o_nePN (by decide) rfl (by kernel_rfl) ?_)) <;> (try (refine wK ?_; intro _)))) | refine wC ?_ | (refine ex_split rfl ?_ ?_ <;> intro hc))
        repeat' (first | (refine rA 5 [0, 3, 16] 12 ?_; (refine os_all ?_); ((refine lQ 0 ?_; ((refine lQ 1 ?_; ((refine lQ 2 ?_; ((refine lC (v := ?_) 3 ?_ ?_; rotate_left; (focus ((refine o_load_a (vs := ppc oa ocp p) (by decide) rfl hsub ?_) <;> exact lL)); ((refine lQ 4 ?_; ((refine lQ 5 ?_; ((refine lQ 6 ?_; ((refine lQ 7 ?_; ((refine lC (v := ?_) 8 ?_ ?_; rotate_left; (focus ((refine o_load_s (v := .slice sa s.sinks.length sc_) (by decide) rfl rfl ?_) <;> exact lL)); ((refine oN 9 ?_ <;> ((refine o_callH (hmay _ inferInstance inferInstance) (by first | exact True.intro | (show _ < _; decide)) rfl rfl (fun _ _ => ?_))) <;> (refine os_nil ?_) <;> ((refine lQ 10 ?_; ((refine lQ 11 ?_; ((refine dK ?_; intro _))))))))))))))))))))))))))) | refine wC ?_ | (refine ex_split rfl ?_ ?_ <;> intro hc))
        all_goals
          repeat' (first | (refine rA 7 [] 17 ?_; (refine os_but 0 rfl ?_); ((refine lQ 0 ?_; ((refine lQ 1 ?_; ((refine lQ 2 ?_; ((refine lQ 3 ?_; ((refine lQ 4 ?_; ((refine lQ 5 ?_; ((refine lQ 6 ?_; ((refine lQ 7 ?_; ((refine lQ 8 ?_; ((refine lQ 10 ?_; ((refine lC (v := ?_) 11 ?_ ?_; rotate_left; (focus ((refine o_load_a (vs := ppc oa ocp p) (by decide) rfl hsub ?_) <;> exact lL)); ((refine lQ 13 ?_; ((refine lQ 14 ?_; ((refine oN 9 ?_ <;> (refine o_load_s (v := .int .i64 s.qu) (by decide) rfl rfl ?_) <;> (refine os_nil ?_) <;> ((refine oN 12 ?_ <;> ((refine o_callH (ceNew _ tn s.qu p oa ocp hpi (by omega) hid0 hid8) (by first | exact True.intro | (show _ < _; decide)) rfl rfl (fun cb _ => ?_))) <;> (refine os_nil ?_) <;> ((refine lQ 15 ?_; ((refine oN 16 ?_ <;> ((refine o_store_s (v := .pointer _) rfl rfl rfl hblt ?_)) <;> (refine os_nil ?_) <;> ((refine dK ?_; intro _))))))))))))))))))))))))))))))))))))) | refine wC ?_ | (refine ex_split rfl ?_ ?_ <;> intro hc))
          all_goals
            refine Ex.ent ?_ (ent_clL (b := b) (l' := coc s.bu s.ro s.qu s.ticks sa s.sinks.length sc_ (L.set tn.toNat (some (cb, newCd tn s.qu p))) pa s.pots.length pc_ bb) (hset (some (cb, newCd tn s.qu p))))
            repeat' (first | (refine rG 8 [4] ?_; ((try (refine wK ?_; intro _)))) | refine wC ?_ | (refine ex_split rfl ?_ ?_ <;> intro hc))
            refine fin (.inr rfl) () (resl1 rfl (rv_tmp rfl)) trivial ?_
            refine Ent.trans ?_ (co_mk (s := { s with cells := s.cells.set tn.toNat (some (newCd tn s.qu p)) }) (oaOk_set ok tn.toNat (some (cb, newCd tn s.qu p))))
            rw [COr_flat, CEs_set L _ hkL (cb, newCd tn s.qu p), CEs_none L _ (lk_none ok.l8 h7 hk)]
            exact ent_take
  · have hw : (decide (tn ≥ 0) && decide (tn ≤ 7)) = false := by
      rcases Decidable.not_and_iff_or_not.1 h7 with h | h
      · rw [decide_eq_false (show ¬ tn ≥ 0 from h)]; rfl
      · rw [decide_eq_false h, Bool.and_false]
    have he : register tn p s = (s, 2) := by unfold register; rw [if_pos h7]
    rw [he]
    rw [COr_flat]
    refine spec_of Tryz.func66 rfl Tryz.ntmps66 rfl ?_
    repeat' (first | (refine rG 0 [0, 3] ?_; ((try ((refine o_box (by decide) (v := .agg (acc oa ocp (kd, tn, fr, nn, p, i)).toArray) rfl rfl (fun b3 => ?_)))) <;> (try (refine wK ?_; intro _)))) | refine ex_seq ?_ | refine ex_ret ?_ | refine ex_skip ?_ | refine ex_exit ?_ | refine ex_cond_t rfl ?_ | refine ex_cond_f rfl ?_ | refine ex_cond_t (congrArg Value.bool (by assumption)) ?_ | refine ex_cond_f (congrArg Value.bool (by assumption)) ?_ | (refine ex_split rfl ?_ ?_ <;> intro hc))
    repeat' (first | (refine rG 1 [0, 3, 5] ?_; ((try refine wO ?_) <;> (try (refine o_call (coWithinV hw) (by first | exact True.intro | (show _ < _; decide)) rfl rfl (fun _ _ => ?_))) <;> (try (refine wK ?_; intro _)))) | (refine rG 2 [4] ?_; ((try (refine wK ?_; intro _)))) | refine wC ?_ | (refine ex_split rfl ?_ ?_ <;> intro hc))
    refine fin (.inr rfl) () (resl1 rfl (rv_tmp rfl)) trivial ?_
    refine Ent.trans ?_ (co_mk ok)
    rw [COr_flat]
    exact ent_take
end Go.Proofs.YtcelailgedndnaaGreatS
namespace Go.Proofs.YtcelailgedndnaaGreatS
open Go.RowKit
set_option linter.unusedVariables false
set_option linter.unusedSimpArgs false
theorem spec_ow {P : Program} {f : FuncId} {args : List Value} {H : HP} {X : Type} {val : X → Value} {pr : X → Prop} {res : X → HP} {el sz m cap : Nat} {ad : Addr} {l : List Value} (hm : 0 < m)
    (h : ∀ g cur, ad = ⟨g, 0, none⟩ → cur.length = cap * sz → cur.take (m * sz) = l → l.length = m * sz → m ≤ cap → cap ≤ maxLen → Spec P f args (cl true g cur el (0, 0) * H) val pr res) : Spec P f args (ow el sz (some ad) m cap l * H) val pr res := fun w0 w F s => by
  have s2 := s
  rw [sep_assoc] at s2
  obtain ⟨h1, h2, h3, h4 | ⟨g, cur, ha, hc, ht, sg⟩⟩ := ow_cases s2
  · omega
  · exact h g cur (by cases ha; rfl) hc ht h1 h2 h3 w0 w F (by rw [sep_assoc]; exact sg)
theorem ent_ow_mk {el sz m cap g : Nat} {l cur : List Value} {F : HP} (h1 : l.length = m * sz) (h2 : m ≤ cap) (h3 : cap ≤ maxLen) (hc : cur.length = cap * sz) (ht : cur.take (m * sz) = l) : Ent (cl true g cur el (0, 0) * F) (ow el sz (some ⟨g, 0, none⟩) m cap l * F) := fun w0 w G s => by
  rw [sep_assoc] at s ⊢
  exact ow_mk h1 h2 h3 hc ht s
theorem flat_at {α : Type} {cells : α → List Value} (l : List α) (i : Nat) (hi : i < l.length) : l.flatMap cells = (l.take i).flatMap cells ++ cells l[i] ++ (l.drop (i + 1)).flatMap cells := by
  conv => lhs; rw [← List.take_append_drop i l, List.drop_eq_getElem_cons hi]
  rw [List.flatMap_append, List.flatMap_cons, List.append_assoc]
theorem flat_set1 {α : Type} {cells : α → List Value} (l : List α) (i : Nat) (hi : i < l.length) (x : α) : (l.set i x).flatMap cells = (l.take i).flatMap cells ++ cells x ++ (l.drop (i + 1)).flatMap cells := by
  rw [List.set_eq_take_append_cons_drop, if_pos hi, List.flatMap_append, List.flatMap_cons, List.append_assoc]
set_option linter.unusedVariables false
set_option linter.unusedSimpArgs false
attribute [local irreducible] Ops Ex Spec T V QO OA Rn
theorem giveO (ad : Addr) (pots : List (Int × Pt)) (pc_ : Nat) (R : HP) (s : Sk) (tn : Int) (a : Option Addr) (l : List Rw) (m cap : Nat) (i : Nat) (hi : i < pots.length) {cs : List Value} [hr : RdC R a cs] (hm : m = l.length) (hcs : cs = l.flatMap rwc) (hl : l.length ≤ 1000000) :
    Spec Tryz.prog 119 [.pointer (some (ad.add (i * 4))), .agg (sc s).toArray, .int .i64 tn, .slice a m cap] (ow 108 4 (some ad) pots.length pc_ (pots.flatMap potc) * R) (X := Unit) (fun _ => .int .i64 (gn s.1 tn l : Int)) (fun _ => True)
      (fun _ => ow 108 4 (some ad) pots.length pc_ ((pots.set i ((pots[i]).1, gv s.1 tn (pots[i]).1 (pots[i]).2 l)).flatMap potc) * R) := by
  refine spec_ow (by omega) fun g cur had hc ht h1 h2 h3 => ?_
  subst had
  have hcur : cur = (pots.take i).flatMap potc ++ pcl (pots[i]).1 (pots[i]).2 ++ ((pots.drop (i + 1)).flatMap potc ++ cur.drop (pots.length * 4)) := by
    have e := List.take_append_drop (pots.length * 4) cur
    rw [ht, flat_at pots i hi] at e
    conv => lhs; rw [← e]
    rw [List.append_assoc]; rfl
  have hA : ((pots.take i).flatMap potc).length = i * 4 := by rw [flat_len potc_len, List.length_take]; congr 1; omega
  have hg := giveM g ((pots.take i).flatMap potc) ((pots.drop (i + 1)).flatMap potc ++ cur.drop (pots.length * 4)) (0 + i * 4) (pots[i]).1 (pots[i]).2 108 R s tn a l m cap hm hcs hl (by rw [hA]; omega)
  rw [add_none]
  rw [← hcur] at hg
  refine hg.mono fun y _ => ⟨(), rfl, trivial, ?_⟩
  have hnew : ((pots.set i ((pots[i]).1, gv s.1 tn (pots[i]).1 (pots[i]).2 l)).flatMap potc).length = pots.length * 4 := by rw [flat_len potc_len, List.length_set]
  refine ent_ow_mk hnew h2 h3 ?_ ?_
  · rw [← hc]
    conv => rhs; rw [hcur]
    simp [pcl]
  · have e2 : (pots.take i).flatMap potc ++ pcl (pots[i]).1 (gv s.1 tn (pots[i]).1 (pots[i]).2 l) ++ ((pots.drop (i + 1)).flatMap potc ++ cur.drop (pots.length * 4)) = (pots.set i ((pots[i]).1, gv s.1 tn (pots[i]).1 (pots[i]).2 l)).flatMap potc ++ cur.drop (pots.length * 4) := by
      rw [flat_set1 pots i hi, ← List.append_assoc]; rfl
    rw [e2, ← hnew, List.take_left]
end Go.Proofs.YtcelailgedndnaaGreatS
namespace Go.Proofs.YtcelailgedndnaaGreatS
open Go.RowKit
set_option linter.unusedVariables false
set_option linter.unusedSimpArgs false
/-! What holds of a core at any time. -/
structure CsOk (s : Cs) (n : Nat) : Prop where
  c8 : s.cells.length = 8
  cell : ∀ t c, cell s t = some c → CdOk c n ∧ mayP (t : Int) c.run.pp s.sinks = true ∧ c.id = (t : Int)
  kinds : s.pots.map (·.1) = s.sinks.map (·.2.2.2.1)
  sinks : s.sinks.length ≤ 4
  t8 : s.told.length = 8
  told : ∀ l ∈ s.told, l.length ≤ n
  tk0 : 0 ≤ s.ticks
  tk1 : s.ticks ≤ (n : Int)
theorem CsOk.pots {s : Cs} {n : Nat} (h : CsOk s n) : s.pots.length = s.sinks.length := by
  have := congrArg List.length h.kinds
  simpa using this
theorem CdOk.mono {c : Cd} {n m : Nat} (h : CdOk c n) (hm : n ≤ m) : CdOk c m := { h with ins := Nat.le_trans h.ins hm }
theorem CsOk.mono {s : Cs} {n m : Nat} (h : CsOk s n) (hm : n ≤ m) : CsOk s m :=
  { h with cell := fun t c hc => ⟨(h.cell t c hc).1.mono hm, (h.cell t c hc).2⟩, told := fun l hl => Nat.le_trans (h.told l hl) hm, tk1 := by have := h.tk1; omega }
theorem cell_set {s : Cs} {t : Nat} {x : Option Cd} {P : List (Int × Pt)} (ht : t < s.cells.length) (u : Nat) : cell { s with cells := s.cells.set t x, pots := P } u = if u = t then x else cell s u := by
  unfold cell
  by_cases h : u = t
  · subst h; rw [if_pos rfl]; simp [ht]
  · rw [if_neg h]
    show ((s.cells.set t x)[u]?).getD none = _
    rw [List.getElem?_set_ne (fun e => h e.symm)]
theorem cell_lt {s : Cs} {t : Nat} {c : Cd} (h : cell s t = some c) : t < s.cells.length := by
  unfold cell at h
  by_cases ht : t < s.cells.length
  · exact ht
  · rw [List.getElem?_eq_none (by omega)] at h; cases h
theorem serve_ok {c : Cd} {n : Nat} (h : CdOk c n) (k : Int) : CdOk (serve k c).1 n := by
  have hk := pk_le k c.q.length
  have hok1 : RuOk c.run (8 * c.taken.length - c.rows.length) := ⟨h.ops, h.nod, by have := h.pan; omega⟩
  obtain ⟨⟨k1, k2, k3⟩, k4⟩ := rnTake_ok hok1 (c.q.take (pk k c.q.length))
  have hp := h.pan
  have hl : (c.q.take (pk k c.q.length)).length = pk k c.q.length := by rw [List.length_take]; omega
  rw [hl] at k3 k4
  refine ⟨k1, k2, ?_, ?_, h.l0, h.l1, h.i0, h.i8⟩
  · show (c.rows ++ (rnTake c.run (c.q.take (pk k c.q.length))).2).length + (rnTake c.run (c.q.take (pk k c.q.length))).1.P.length ≤ 8 * (c.taken ++ c.q.take (pk k c.q.length)).length
    rw [List.length_append, List.length_append, hl]; omega
  · show (c.taken ++ c.q.take (pk k c.q.length)).length + (c.q.drop (pk k c.q.length)).length ≤ n
    rw [List.length_append, List.length_drop, hl]; have := h.ins; omega
theorem serve_pp (k : Int) (c : Cd) : (serve k c).1.run.pp = c.run.pp := rnTake_pp _ _
theorem serve_id (k : Int) (c : Cd) : (serve k c).1.id = c.id := rfl
def potsS (s : Cs) (t : Nat) (k : Int) (c : Cd) : List (Int × Pt) :=
  if c.run.pp.2.2.2.2.1 = -1 then s.pots else
    match s.sinks[c.run.pp.2.2.2.2.1.toNat]?, s.pots[c.run.pp.2.2.2.2.1.toNat]? with
    | some sk, some p => s.pots.set c.run.pp.2.2.2.2.1.toNat (p.1, gv sk.1 (t : Int) p.1 p.2 (serve k c).2)
    | _, _ => s.pots
theorem serve1_some {s : Cs} {t : Nat} {c : Cd} (h : cell s t = some c) (k : Int) : serve1 t k s = { s with cells := s.cells.set t (some (serve k c).1), pots := potsS s t k c } := by
  unfold serve1; rw [h]; rfl
theorem serve1_none {s : Cs} {t : Nat} (h : cell s t = none) (k : Int) : serve1 t k s = s := by unfold serve1; rw [h]
theorem potsS_kinds (s : Cs) (t : Nat) (k : Int) (c : Cd) : (potsS s t k c).map (·.1) = s.pots.map (·.1) := by
  unfold potsS
  split
  · rfl
  · split
    · rename_i sk p h1 h2
      rw [List.map_set]
      obtain ⟨hlt, he⟩ := List.getElem?_eq_some_iff.1 h2
      apply List.ext_getElem
      · simp
      · intro i h3 h4
        rw [List.getElem_set]
        split
        · rename_i e; subst e; simp [he]
        · rfl
    · rfl
theorem serve1_ok {s : Cs} {n : Nat} (h : CsOk s n) (t : Nat) (k : Int) : CsOk (serve1 t k s) n := by
  cases hc : cell s t with
  | none => rw [serve1_none hc]; exact h
  | some c =>
    rw [serve1_some hc]
    have hlt := cell_lt hc
    refine { h with c8 := ?_, cell := ?_, kinds := ?_ }
    · show (s.cells.set t _).length = 8; rw [List.length_set]; exact h.c8
    · intro u d hd
      rw [cell_set hlt] at hd
      by_cases hu : u = t
      · subst hu; rw [if_pos rfl] at hd
        have : d = (serve k c).1 := (Option.some.inj hd).symm
        subst this
        obtain ⟨a1, a2, a3⟩ := h.cell u c hc
        exact ⟨serve_ok a1 k, by rw [serve_pp]; exact a2, a3⟩
      · rw [if_neg hu] at hd; exact h.cell u d hd
    · show (potsS s t k c).map _ = _; rw [potsS_kinds]; exact h.kinds
theorem serve1_same (t : Nat) (k : Int) (s : Cs) : (serve1 t k s).sinks = s.sinks ∧ (serve1 t k s).bu = s.bu ∧ (serve1 t k s).ro = s.ro ∧ (serve1 t k s).qu = s.qu ∧ (serve1 t k s).told = s.told ∧ (serve1 t k s).ticks = s.ticks := by
  cases hc : cell s t with
  | none => rw [serve1_none hc]; simp
  | some c => rw [serve1_some hc]; simp
theorem mayP_sink {id : Int} {p : Pp} {ss : List Sk} (h : mayP id p ss = true) (hs : p.2.2.2.2.1 ≠ -1) : 0 ≤ p.2.2.2.2.1 ∧ p.2.2.2.2.1.toNat < ss.length := by
  unfold mayP R.mayF at h
  simp only [Bool.and_eq_true] at h
  have h2 := h.1.2
  unfold R.inF at h2
  rw [if_neg (by simpa using hs)] at h2
  split at h2
  · rename_i h3
    refine ⟨of_decide_eq_true h3, ?_⟩
    cases hx : ss[p.2.2.2.2.1.toNat]? with
    | none => rw [hx] at h2; cases h2
    | some k => exact (List.getElem?_eq_some_iff.1 hx).1
  · cases h2
/-! Feeding. -/
theorem feedC_ok {c : Cd} {n : Nat} (h : CdOk c n) (e : Ev) : CdOk (feedC e c) (n + 1) := by
  unfold feedC
  split
  · refine { h with ins := ?_ }
    show c.taken.length + (c.q ++ [(false, e)]).length ≤ n + 1
    rw [List.length_append]; have := h.ins; simp; omega
  · exact h.mono (by omega)
theorem feedC_run (e : Ev) (c : Cd) : (feedC e c).run = c.run ∧ (feedC e c).id = c.id := by unfold feedC; split <;> exact ⟨rfl, rfl⟩
theorem feed1_ok {c : Cd} {n : Nat} (h : CdOk c n) (k : Sk) (r : Bd.Rl) (t : Nat) : CdOk (feed1 k r t c) (n + 1) := by
  unfold feed1
  split
  · exact feedC_ok h _
  · exact h.mono (by omega)
theorem feed1_run (k : Sk) (r : Bd.Rl) (t : Nat) (c : Cd) : (feed1 k r t c).run = c.run ∧ (feed1 k r t c).id = c.id := by unfold feed1; split; exact feedC_run _ _; exact ⟨rfl, rfl⟩
theorem cell_feed (k : Sk) (r : Bd.Rl) (s : Cs) (t : Nat) : cell (feedAll k r s) t = (cell s t).map (feed1 k r t) := by
  unfold cell feedAll
  simp only [List.getElem?_mapIdx]
  cases s.cells[t]? with
  | none => rfl
  | some x => cases x <;> rfl
theorem feedAll_ok {s : Cs} {n m : Nat} (h : CsOk s m) (hc : ∀ t c, cell s t = some c → CdOk c n) (hm : n + 1 ≤ m) (k : Sk) (r : Bd.Rl) : CsOk (feedAll k r s) m := by
  refine { h with c8 := ?_, cell := ?_ }
  · show (s.cells.mapIdx _).length = 8; rw [List.length_mapIdx]; exact h.c8
  · intro t d hd
    rw [cell_feed] at hd
    cases hct : cell s t with
    | none => rw [hct] at hd; cases hd
    | some c =>
      rw [hct] at hd
      have : d = feed1 k r t c := (Option.some.inj hd).symm
      subst this
      obtain ⟨a1, a2, a3⟩ := h.cell t c hct
      obtain ⟨b1, b2⟩ := feed1_run k r t c
      exact ⟨(feed1_ok (hc t c hct) k r t).mono hm, by rw [b1]; exact a2, by rw [b2]; exact a3⟩
theorem kinds_set {P : List (Int × Pt)} {S : List Sk} (h : P.map (·.1) = S.map (·.2.2.2.1)) {i : Nat} {k : Sk} (h1 : S[i]? = some k) (x : Pt) : (P.set i (k.2.2.2.1, x)).map (·.1) = S.map (·.2.2.2.1) := by
  rw [List.map_set, h]
  apply List.ext_getElem
  · simp
  · intro j h3 h4
    rw [List.getElem_set]
    split
    · rename_i e; subst e
      obtain ⟨_, e2⟩ := List.getElem?_eq_some_iff.1 h1
      simp [e2]
    · rfl
def told1 (i : Nat) (k : Sk) (p : Pt) (s : Cs) : Cs := { s with pots := s.pots.set i (k.2.2.2.1, (0, 0, 0)), told := pinAll k.2.1 (rel i k p s.ticks) s.told }
theorem told1_ok {s : Cs} {n : Nat} (h : CsOk s n) {i : Nat} {k : Sk} (h1 : s.sinks[i]? = some k) (p : Pt) : CsOk (told1 i k p s) (n + 1) := by
  have hm := h.mono (Nat.le_succ n)
  refine { hm with kinds := kinds_set h.kinds h1 _, t8 := ?_, told := ?_ }
  · show (pinAll _ _ _).length = 8; unfold pinAll; rw [List.length_mapIdx]; exact h.t8
  · intro l hl
    have hl : l ∈ pinAll k.2.1 (rel i k p s.ticks) s.told := hl
    unfold pinAll at hl
    obtain ⟨j, hj, rfl⟩ := List.mem_mapIdx.1 hl
    unfold Bd.pins
    have := h.told _ (List.getElem_mem hj)
    split
    · rw [List.length_append]; simp; omega
    · omega
theorem tick1_eq {s : Cs} {i : Nat} {k : Sk} {p : Int × Pt} (h1 : s.sinks[i]? = some k) (h2 : s.pots[i]? = some p) : tick1 i s = if (ep k s.ticks).2 then (if few p.2 k then told1 i k p.2 s else feedAll k (rel i k p.2 s.ticks) (told1 i k p.2 s)) else s := by
  unfold tick1; rw [h1, h2]; rfl
theorem tick1_ok {s : Cs} {n : Nat} (h : CsOk s n) (i : Nat) : CsOk (tick1 i s) (n + 1) := by
  by_cases hi : i < s.sinks.length
  · have h1 := List.getElem?_eq_getElem hi
    have h2 := List.getElem?_eq_getElem (l := s.pots) (i := i) (by rw [h.pots]; exact hi)
    rw [tick1_eq h1 h2]
    split
    · split
      · exact told1_ok h h1 _
      · exact feedAll_ok (told1_ok h h1 _) (fun t c hc => (h.cell t c hc).1) (Nat.le_refl _) _ _
    · exact h.mono (Nat.le_succ n)
  · have : tick1 i s = s := by unfold tick1; rw [List.getElem?_eq_none (by omega)]
    rw [this]; exact h.mono (Nat.le_succ n)
theorem tick1_same (i : Nat) (s : Cs) : (tick1 i s).sinks = s.sinks ∧ (tick1 i s).bu = s.bu ∧ (tick1 i s).ro = s.ro ∧ (tick1 i s).qu = s.qu ∧ (tick1 i s).ticks = s.ticks := by
  unfold tick1
  split
  · split
    · split <;> exact ⟨rfl, rfl, rfl, rfl, rfl⟩
    · exact ⟨rfl, rfl, rfl, rfl, rfl⟩
  · exact ⟨rfl, rfl, rfl, rfl, rfl⟩
end Go.Proofs.YtcelailgedndnaaGreatS
namespace Go.Proofs.YtcelailgedndnaaGreatS
open Go.RowKit
set_option linter.unusedVariables false
set_option linter.unusedSimpArgs false
set_option linter.unusedVariables false
set_option linter.unusedSimpArgs false
attribute [local irreducible] Ops Ex Spec T V QO OA Rn OS
theorem ent_cell {L : Cl} {t : Nat} {y : Nat × Cd} {H R : HP} (h : L[t]? = some (some y)) [tk : Take (CEs L) H R] : Ent H (CE y.1 y.2 * (CEs (L.set t none) * R)) := by rw [tk.eq, CEs_get L t y h, sep_assoc]; exact Ent.refl _
theorem ent_uncell {L : Cl} {t : Nat} {y : Nat × Cd} {R : HP} (h : L[t]? = some (some y)) : Ent (CE y.1 y.2 * (CEs (L.set t none) * R)) (CEs L * R) := by rw [CEs_get L t y h, sep_assoc]; exact Ent.refl _
theorem ex_ce {n : Nat} {code : Code} {e : Env} {Φ : Post} {b : Nat} {le sp re : Int} {q : List In} {run : Ru} {id : Int} {rows : List Rw} {taken : List In} {H : HP}
    (h : ∀ rb pb mb oa ocp qa qc ra rc ta tc, q.length ≤ qc → rows.length ≤ rc → taken.length ≤ tc → Ex Tryz.prog n code e (cl true b [.int .i64 le, .int .i64 sp, .int .i64 re, .slice qa q.length qc, .pointer (some ⟨rb, 0, none⟩), .int .i64 id, .slice ra rows.length rc, .slice ta taken.length tc] 60 (0, 0) * (RR rb pb mb oa ocp run * (rs qa (q.flatMap inc) * (ow 67 5 ra rows.length rc (rows.flatMap rwc) * (ow 39 5 ta taken.length tc (taken.flatMap inc) * H))))) Φ) :
    Ex Tryz.prog n code e (CE b ⟨le, sp, re, q, run, id, rows, taken⟩ * H) Φ := by
  refine Ex.exh fun y => ?_
  rw [sep_assoc]
  refine Ex.pu fun hy => ?_
  obtain ⟨rb, pb, mb, oa, ocp, qa, qc, ra, rc, ta, tc⟩ := y
  have := h rb pb mb oa ocp qa qc ra rc ta tc hy.1 hy.2.1 hy.2.2
  refine this.ent (Ent.ofEq ?_)
  unfold CR
  simp only [sep_assoc]
  rfl
theorem ent_head (A : HP) {H R : HP} [t : Take A H R] : Ent H (A * R) := by rw [t.eq]; exact Ent.refl _
theorem ent_RR {rb pb mb : Nat} {oa : Option Addr} {ocp : Nat} {m lt s : Int} {ops : List (Int × Int)} {sz sl ag sk fd : Int} {P : Pm} {H : HP} : Ent (RR rb pb mb oa ocp ⟨m, lt, s, (ops, sz, sl, ag, sk, fd), P⟩ * H) (cl true rb [.int .i64 m, .int .i64 lt, .int .i64 s, .pointer (some ⟨pb, 0, none⟩), .slice oa ops.length ocp, .int .i64 sz, .int .i64 sl, .int .i64 ag, .int .i64 sk, .int .i64 fd] 65 (0, 0) * (rs oa (ops.flatMap oc) * (PT pb mb sz sl ag P * H))) := by
  rw [RR_eq, sep_assoc, sep_assoc]; exact Ent.refl _
theorem coc_same {bu ro qu ti : Int} {sa : Option Addr} {ns sc_ : Nat} {L : Cl} {pa : Option Addr} {np pc_ bb : Nat} {t : Nat} {cb : Nat} {c c2 : Cd} (h : L[t]? = some (some (cb, c))) :
    coc bu ro qu ti sa ns sc_ (L.set t (some (cb, c2))) pa np pc_ bb = coc bu ro qu ti sa ns sc_ L pa np pc_ bb := by
  have e : (L.set t (some (cb, c2))).map pv = L.map pv := by
    rw [List.map_set]
    obtain ⟨hl, he⟩ := List.getElem?_eq_some_iff.1 h
    apply List.ext_getElem
    · simp
    · intro n h1 h2
      rw [List.getElem_set]
      split
      · rename_i e; subst e; simp [he, pv]
      · rfl
  unfold coc; rw [e]
theorem waits_lk {L : Cl} {s : Cs} (h : L.map (fun x => x.map (·.2)) = s.cells) (t : Nat) (ht : t < L.length) : waits s t = match L[t] with | none => 0 | some y => (y.2.q.length : Int) := by
  unfold waits cell
  rw [← h, List.getElem?_map, List.getElem?_eq_getElem ht]
  cases L[t] <;> rfl
theorem map_step {f : Nat → Int} {t : Nat} (ht : t < 8) : ((List.range 8).map fun j => if j < t then f j else 0).set t (f t) = (List.range 8).map fun j => if j < t + 1 then f j else 0 := by
  apply List.ext_getElem
  · simp
  · intro n h1 h2
    rw [List.getElem_set]
    simp only [List.getElem_map, List.getElem_range]
    by_cases hn : t = n
    · subst hn; rw [if_pos rfl, if_pos (by omega)]
    · rw [if_neg hn]
      by_cases hh : n < t
      · rw [if_pos hh, if_pos (by omega)]
      · rw [if_neg hh, if_neg (by omega)]
theorem ints_set {l : List Int} {i : Nat} {v : Int} (h : i < l.length) : spl (l.flatMap (cw .i64)) (i * 1) [.int .i64 v] = (l.set i v).flatMap (cw .i64) := by
  have hh : ∀ x : Int, (cw .i64 x).length = 1 := fun _ => rfl
  have := flat_set (cells := cw .i64) (sz := 1) hh l i 0 h (l[i]) v (.int .i64 v) (by decide) rfl rfl
  simpa using this
set_option maxRecDepth 100000 in
set_option maxHeartbeats 32000000 in
theorem coServe {X H : HP} (b : Nat) (s : Cs) [t : Take (CO b s) X H] {n : Nat} (ok : CsOk s n) (hn : n ≤ 10000) :
    Spec Tryz.prog 95 [.pointer (some ⟨b, 0, none⟩)] X (X := Unit) (fun _ => .tuple #[]) (fun _ => True) (fun _ => CO b (serveAll s) * H) := by
  rw [t.eq]
  refine co_open fun sa sc_ L pa pc_ bb bs oo => ?_
  rw [COr_flat]
  have hL8 : L.length = 8 := oo.l8
  refine spec_of Tryz.func95 rfl Tryz.ntmps95 rfl ?_
  repeat' (first | (refine rG 0 [0, 2] ?_; ((try ((refine o_make (by decide) rfl rfl (by decide) (by decide) (fun b10 => ?_)))) <;> (try (refine wK ?_; intro _)))) | refine wC ?_ | (refine ex_split rfl ?_ ?_ <;> intro hc))
  have hsub : sub (coc s.bu s.ro s.qu s.ticks sa s.sinks.length sc_ L pa s.pots.length pc_ bb) (0 + 4) 8 = some (L.map pv) := by
    obtain ⟨x0, x1, x2, x3, x4, x5, x6, x7, rfl⟩ := list8 hL8
    rfl
  have hticks : (coc s.bu s.ro s.qu s.ticks sa s.sinks.length sc_ L pa s.pots.length pc_ bb)[0 + 14]? = some (.int .i64 s.ticks) := by
    obtain ⟨x0, x1, x2, x3, x4, x5, x6, x7, rfl⟩ := list8 hL8
    rfl
  repeat' (first | (refine ex_regk (id := 1) (ts := [0, 2, 14, 15]) ?_; ((try (first | refine o_mv (v := .pointer _) (by decide) rfl ?_ | refine o_mv (by decide) rfl ?_)) <;> (try (first | refine o_nil (by decide) rfl ?_ | refine o_nil_func (by decide) rfl ?_)) <;> (try (refine o_fieldAddr' (by decide) rfl ?_)) <;> (try (refine o_load_a (vs := L.map pv) (by decide) rfl hsub ?_)) <;> (try (first | refine o_mv (v := .int _ _) (by decide) rfl ?_ | refine o_mv (by decide) rfl ?_)) <;> (try (refine ops_nilk ?_; intro _)) <;> (try ((first | refine keep_cons (v := .pointer _) rfl ?_ | refine keep_cons (v := _) rfl ?_) <;> (first | refine keep_cons (v := .slice _ _ _) rfl ?_ | refine keep_cons (v := _) rfl ?_) <;> (first | refine keep_cons (v := .agg (List.toArray _)) rfl ?_ | refine keep_cons (v := _) rfl ?_) <;> (first | refine keep_cons (v := .int _ _) rfl ?_ | refine keep_cons (v := _) rfl ?_))) <;> (try refine keep_nil ?_))) | refine wC ?_ | (refine ex_split rfl ?_ ?_ <;> intro hc))
  refine ex_loopE (fun mm e H' => ∃ g, ∃ k : Nat, ∃ W : List Int, e = put (put (put (put g 0 (.pointer (some ⟨b, 0, none⟩))) 2 (.slice (some ⟨b10, 0, none⟩) 8 8)) 14 (.agg (L.map pv).toArray)) 15 (.int .i64 (k : Int)) ∧
    H' = ow 3 1 (some ⟨b10, 0, none⟩) 8 8 (W.flatMap (cw .i64)) * (cl true b (coc s.bu s.ro s.qu s.ticks sa s.sinks.length sc_ L pa s.pots.length pc_ bb) 102 (0, 0) * (rs sa (s.sinks.flatMap sc) * (CEs L * (ow 108 4 pa s.pots.length pc_ (s.pots.flatMap potc) * (cl true bb (bs.map Bd.bcell) 146 (0, 0) * (Bd.bm bs * H)))))) ∧ W = ((List.range 8).map fun j => if j < k then waits s j else 0) ∧ k ≤ 8 ∧ mm = 8 - k) (m := 8) ⟨_, 0, _, rfl, rfl, rfl, by omega, rfl⟩ ?_ ?_
  · exact Ent.refl _
  · rintro mm e H' ⟨g, k, W, rfl, rfl, hW, hk, rfl⟩
    have hW8 : W.length = 8 := by rw [hW]; simp
    by_cases hlt : k < 8
    · have hd : decide ((k : Int) < 8) = true := decide_eq_true (by omega)
      have h0 : 0 ≤ (k : Int) := by omega
      have h1 : (k : Int) < ((8 : Nat) : Int) := by omega
      have h1' : (k : Int) < 8 := by omega
      have ei : IntKind.i64.wrap ((k : Int) + 1) = ((k + 1 : Nat) : Int) := by rw [IntKind.wrap_i64]; omega
      have hkL : k < L.length := by omega
      have hv : (L.map pv)[(k : Int).toNat * 1]? = some (pv L[k]) := by rw [Int.toNat_natCast, Nat.mul_one, List.getElem?_map, List.getElem?_eq_getElem hkL]; rfl
      have hw := waits_lk oo.cells k hkL
      have hLk := List.getElem?_eq_getElem hkL
      have hstep : W.set k (waits s k) = (List.range 8).map fun j => if j < k + 1 then waits s j else 0 := by rw [hW]; exact map_step hlt
      have hkW : k < W.length := by omega
      generalize L[k] = x at *
      cases x with
      | none =>
        have hw : waits s k = 0 := hw
        have hsame : W.set k (waits s k) = W := by
          rw [hw]
          have : W[k]'hkW = 0 := by simp [hW]
          conv => rhs; rw [← List.set_getElem_self hkW, this]
        rw [hsame] at hstep
        repeat' (first | (refine rG 2 [0, 2, 14, 15, 16] ?_; ((try (refine wK ?_; intro _)))) | (refine rG 3 [0, 2, 3, 4, 14, 15] ?_; ((try refine wO ?_) <;> (try (refine o_idxS (v := .pointer none) (by decide) rfl rfl h0 h1 Tryz.underlying99 (fun _ => by kernel_rfl) (sz := 1) (fun _ => by kernel_rfl) hv ?_)) <;> (try (refine wK ?_; intro _)))) | (refine rG 4 [0, 2, 3, 4, 14, 15, 20] ?_; ((try refine wO ?_) <;> (try (refine o_nePN (by decide) rfl (by kernel_rfl) ?_)) <;> (try (refine wK ?_; intro _)))) | (refine rG 6 [0, 2, 14, 15] ?_; ((try (refine wK ?_; intro _)))) | refine wC ?_ | (refine ex_split rfl ?_ ?_ <;> intro hc))
        rw [ei]
        exact ⟨8 - (k + 1), by omega, _, Ent.refl _, _, k + 1, W, rfl, rfl, hstep, by omega, rfl⟩
      | some y =>
        obtain ⟨cb, le, sp, re, q, run, id, rows, taken⟩ := y
        have hw : waits s k = (q.length : Int) := hw
        rw [hw] at hstep
        have hblt : (k : Int).toNat * 1 < (W.flatMap (cw .i64)).length := by rw [cw_flat]; omega
        have hset := ints_set (v := (q.length : Int)) hkW
        repeat' (first | (refine rG 2 [0, 2, 14, 15, 16] ?_; ((try (refine wK ?_; intro _)))) | (refine rG 3 [0, 2, 3, 4, 14, 15] ?_; ((try refine wO ?_) <;> (try (refine o_idxS (v := .pointer (some ⟨cb, 0, none⟩)) (by decide) rfl rfl h0 h1 Tryz.underlying99 (fun _ => by kernel_rfl) (sz := 1) (fun _ => by kernel_rfl) hv ?_)) <;> (try (refine wK ?_; intro _)))) | (refine rG 4 [0, 2, 3, 4, 14, 15, 20] ?_; ((try refine wO ?_) <;> (try (refine o_nePN (by decide) rfl (by kernel_rfl) ?_)) <;> (try (refine wK ?_; intro _)))) | refine wC ?_ | (refine ex_split rfl ?_ ?_ <;> intro hc))
        refine Ex.ent ?_ (ent_cell hLk)
        refine ex_ce fun rb pb mb oa ocp qa qc ra rc ta tc g1 g2 g3 => ?_
        repeat' (first | (refine ex_regk (id := 5) (ts := [0, 2, 14, 15]) ?_; ((try (first | refine o_mv (v := .slice _ _ _) (by decide) rfl ?_ | refine o_mv (by decide) rfl ?_)) <;> (try (first | refine o_mv (v := .int _ _) (by decide) rfl ?_ | refine o_mv (by decide) rfl ?_)) <;> (try (first | refine o_mv (v := .pointer _) (by decide) rfl ?_ | refine o_mv (by decide) rfl ?_)) <;> (try (first | refine o_nil (by decide) rfl ?_ | refine o_nil_func (by decide) rfl ?_)) <;> (try (refine o_fieldAddr' (by decide) rfl ?_)) <;> (try (refine o_load_a (vs := [.slice qa q.length qc]) (by decide) rfl rfl ?_)) <;> (try (refine o_call (queWaiting _ _ _) (by first | exact True.intro | (show _ < _; decide)) rfl rfl (fun _ _ => ?_))) <;> (try (refine o_index (by decide) rfl rfl (by first | decide | assumption | omega) (by first | decide | assumption | omega) ?_)) <;> (try ((refine o_store_os (v := .int _ _) rfl rfl rfl hblt ?_))) <;> (try (refine ops_nilk ?_; intro _)) <;> (try ((first | refine keep_cons (v := .pointer _) rfl ?_ | refine keep_cons (v := _) rfl ?_) <;> (first | refine keep_cons (v := .slice _ _ _) rfl ?_ | refine keep_cons (v := _) rfl ?_) <;> (first | refine keep_cons (v := .agg (List.toArray _)) rfl ?_ | refine keep_cons (v := _) rfl ?_) <;> (first | refine keep_cons (v := .int _ _) rfl ?_ | refine keep_cons (v := _) rfl ?_))) <;> (try refine keep_nil ?_))) | (refine rG 6 [0, 2, 14, 15] ?_; ((try (refine wK ?_; intro _)))) | refine wC ?_ | (refine ex_split rfl ?_ ?_ <;> intro hc))
        rw [ei, Int.toNat_natCast, hset, hstep]
        refine ⟨8 - (k + 1), by omega, _, ?_, _, k + 1, _, rfl, rfl, rfl, by omega, rfl⟩
        refine Ent.trans ?_ (Ent.trans (ent_uncell (R := ow 3 1 (some ⟨b10, 0, none⟩) 8 8 (((List.range 8).map fun j => if j < k + 1 then waits s j else 0).flatMap (cw .i64)) * (cl true b (coc s.bu s.ro s.qu s.ticks sa s.sinks.length sc_ L pa s.pots.length pc_ bb) 102 (0, 0) * (rs sa (s.sinks.flatMap sc) * (ow 108 4 pa s.pots.length pc_ (s.pots.flatMap potc) * (cl true bb (bs.map Bd.bcell) 146 (0, 0) * (Bd.bm bs * H)))))) hLk) ent_take)
        refine Ent.trans ?_ (ce_mk (rb := rb) (pb := pb) (mb := mb) (oa := oa) (ocp := ocp) (qa := qa) (ra := ra) (ta := ta) g1 g2 g3)
        exact ent_take
    · have hil : k = 8 := by omega
      subst hil
      have hd : decide (((8 : Nat) : Int) < 8) = false := rfl
      have hWw : W = (List.range 8).map fun j => waits s j := by
        rw [hW]; apply List.map_congr_left; intro j hj; rw [if_pos (by simpa using hj)]
      have hplan := fun (H' : HP) (h : RdC H' (some ⟨b10, 0, none⟩) (W.flatMap (cw .i64))) => slPlan H' s.bu s.ticks (some ⟨b10, 0, none⟩) W 8 (hr := h) hW8 (by have := ok.tk1; omega)
      rw [hW8] at hplan
      have hord := order_lt s.ticks
      have hT : planL s.bu s.ticks W = (order s.ticks).map fun (t : Nat) => ((t : Int), turnN s.bu (waits s t)) := by
        unfold planL
        apply List.map_congr_left
        intro t ht
        have := hord t ht
        rw [hWw, List.getElem?_map, List.getElem?_range (by omega)]; rfl
      generalize planL s.bu s.ticks W = T at *
      repeat' (first | (refine rG 2 [0, 2, 14, 15, 16] ?_; ((try (refine wK ?_; intro _)))) | (refine rA 7 [0, 40, 41, 42] 13 ?_; (refine os_all ?_); ((refine lQ 0 ?_; ((refine lQ 1 ?_; ((refine lQ 2 ?_; ((refine lQ 3 ?_; ((refine lC (v := ?_) 4 ?_ ?_; rotate_left; (focus ((refine o_load_s (v := .int .i64 s.bu) (by decide) rfl rfl ?_) <;> exact lL)); ((refine lQ 5 ?_; ((refine lQ 6 ?_; ((refine lQ 7 ?_; ((refine lC (v := ?_) 8 ?_ ?_; rotate_left; (focus ((refine o_load_s (v := .int .i64 s.ticks) (by decide) rfl hticks ?_) <;> exact lL)); ((refine lQ 9 ?_; ((refine lQ 12 ?_; ((refine oN 10 ?_ <;> ((refine o_callH (hplan _ inferInstance) (by first | exact True.intro | (show _ < _; decide)) rfl rfl (fun y hy => ?_); obtain ⟨ta, tc⟩ := y)) <;> (refine os_nil ?_) <;> ((refine lQ 11 ?_; ((refine dK ?_; intro _))))))))))))))))))))))))))))) | refine wC ?_ | (refine ex_split rfl ?_ ?_ <;> intro hc))
      have hTl : T.length = (order s.ticks).length := by rw [hT]; simp
      have h8o := order_len s.ticks
      all_goals
        refine ex_loopE (fun mm e H' => ∃ g, ∃ j : Nat, ∃ x : Cs, ∃ L' : Cl, e = put (put (put (put g 0 (.pointer (some ⟨b, 0, none⟩))) 40 (.slice ta T.length tc)) 41 (.int .i64 (T.length : Int))) 42 (.int .i64 (j : Int)) ∧
          H' = ow 205 2 ta T.length tc (T.flatMap trc) * (cl true b (coc x.bu x.ro x.qu x.ticks sa x.sinks.length sc_ L' pa x.pots.length pc_ bb) 102 (0, 0) * (rs sa (x.sinks.flatMap sc) * (CEs L' * (ow 108 4 pa x.pots.length pc_ (x.pots.flatMap potc) * (cl true bb (bs.map Bd.bcell) 146 (0, 0) * (Bd.bm bs * H)))))) ∧ x = ((order s.ticks).take j).foldl (fun x t => serve1 t (turnN s.bu (waits s t)) x) s ∧ OaOk x ⟨sa, sc_, L', pa, pc_, bb, bs⟩ ∧ CsOk x n ∧ j ≤ T.length ∧ mm = T.length - j) (m := T.length) ⟨_, 0, s, L, rfl, rfl, rfl, oo, ok, by omega, by omega⟩ ?_ ?_
        · exact ent_take
        · clear hsub hticks oo ok
          rintro mm e H' ⟨g, j, x, L', rfl, rfl, hx, oo, ok, hj, rfl⟩
          have hL8 : L'.length = 8 := oo.l8
          by_cases hlt : j < T.length
          · have hd : decide ((j : Int) < (T.length : Int)) = true := decide_eq_true (by omega)
            have h0 : 0 ≤ (j : Int) := by omega
            have h1 : (j : Int) < (T.length : Int) := by omega
            have ei : IntKind.i64.wrap ((j : Int) + 1) = ((j + 1 : Nat) : Int) := by rw [IntKind.wrap_i64]; omega
            have hjo : j < (order s.ticks).length := by omega
            have hTj : T[j] = (((order s.ticks)[j] : Int), turnN s.bu (waits s (order s.ticks)[j])) := by simp [hT]
            refine Ex.rd_some (a := ta) (l := T.flatMap trc) (by rw [flat_len trc_len]; omega) (fun ad ha => ?_)
            subst ha
            have hv : sub (T.flatMap trc) ((j : Int).toNat * 2) 2 = some (trc T[j]) := by rw [Int.toNat_natCast]; exact sub_flat trc_len T j hlt
            rw [hTj] at hv
            have hstep : serve1 (order s.ticks)[j] (turnN s.bu (waits s (order s.ticks)[j])) x = ((order s.ticks).take (j + 1)).foldl (fun x t => serve1 t (turnN s.bu (waits s t)) x) s := by
              rw [List.take_succ_eq_append_getElem hjo, List.foldl_append, ← hx]; rfl
            have hok1 := serve1_ok ok (order s.ticks)[j] (turnN s.bu (waits s (order s.ticks)[j]))
            have hu8 := hord _ (List.getElem_mem hjo)
            generalize turnN s.bu (waits s (order s.ticks)[j]) = kk at *
            generalize (order s.ticks)[j] = u at *
            have hat := fun ty => coAt b x.bu x.ro x.qu x.ticks sa x.sinks.length sc_ L' pa x.pots.length pc_ bb (u : Int) ty oo.l8 rfl
            have hcell := lk_cell oo.cells (u : Int)
            have hcI : cellI x (u : Int) = cell x u := by unfold cellI; rw [if_pos (by omega), Int.toNat_natCast]
            rw [hcI] at hcell
            cases hk : lk L' (u : Int) with
            | none =>
              rw [hk] at hat hcell
              have hc0 : cell x u = none := hcell.symm
              rw [serve1_none hc0] at hstep
              repeat' (first | (refine rG 8 [0, 40, 41, 42, 43] ?_; ((try (refine wK ?_; intro _)))) | (refine ex_regk (id := 9) (ts := [0, 6, 40, 41, 42]) ?_; ((try (refine o_index (by decide) rfl rfl (by first | decide | assumption | omega) (by first | decide | assumption | omega) ?_)) <;> (try (refine o_load_ra (vs := trc ((u : Int), kk)) (by decide) rfl hv ?_)) <;> (try ((refine o_alloc_a (by decide) (fun b6 => ?_)))) <;> (try (first | refine o_store_a rfl rfl rfl rfl rfl ?_ | refine o_store_oa rfl rfl rfl (Nat.succ_pos _) rfl (by assumption) ?_)) <;> (try (refine ops_nilk ?_; intro _)) <;> (try ((first | refine keep_cons (v := .pointer _) rfl ?_ | refine keep_cons (v := _) rfl ?_) <;> (first | refine keep_cons (v := .pointer _) rfl ?_ | refine keep_cons (v := _) rfl ?_) <;> (first | refine keep_cons (v := .slice _ _ _) rfl ?_ | refine keep_cons (v := _) rfl ?_) <;> (first | refine keep_cons (v := .int _ _) rfl ?_ | refine keep_cons (v := _) rfl ?_) <;> (first | refine keep_cons (v := .int _ _) rfl ?_ | refine keep_cons (v := _) rfl ?_))) <;> (try refine keep_nil ?_))) | refine wC ?_ | (refine ex_split rfl ?_ ?_ <;> intro hc))
              refine Ex.ent ?_ (ent_clL (b := b6) (l' := trc ((u : Int), kk)) rfl)
              repeat' (first | (refine rG 10 [0, 6, 7, 40, 41, 42] ?_; ((try refine wO ?_) <;> (try (refine o_callB (by first | exact True.intro | (show _ < _; decide)) rfl rfl (hat _) (fun _ _ => ?_))) <;> (try (refine wK ?_; intro _)))) | (refine rG 11 [0, 6, 7, 40, 41, 42, 51] ?_; ((try (refine wK ?_; intro _)))) | (refine rG 16 [0, 40, 41, 42] ?_; ((try (refine wK ?_; intro _)))) | refine wC ?_ | (refine ex_split rfl ?_ ?_ <;> intro hc))
              rw [ei]
              refine ⟨T.length - (j + 1), by omega, _, ?_, _, j + 1, x, L', rfl, rfl, hstep, oo, ok, by omega, rfl⟩
              exact ent_take
            | some y =>
              rw [hk] at hat hcell
              obtain ⟨cb, c⟩ := y
              have hc1 : cell x u = some c := hcell.symm
              obtain ⟨_, _, huL, hLu⟩ := lk_some (L := L') oo.l8 hk
              rw [Int.toNat_natCast] at huL hLu
              obtain ⟨ck1, ck2, ck3⟩ := ok.cell u c hc1
              rw [serve1_some hc1] at hstep hok1
              have hSl : (serve kk c).2.length ≤ 1000000 := by
                have h1 := (serve_ok ck1 kk).pan
                have h2 := (serve_ok ck1 kk).ins
                have h3 : (serve kk c).1.rows = c.rows ++ (serve kk c).2 := rfl
                rw [h3, List.length_append] at h1; omega
              have hpp := serve_pp kk c
              have hsrv := fun (X' H' : HP) (h : Take (CE cb c) X' H') => ceServe cb c kk (t := h) ck1 hn
              unfold potsS at hstep hok1
              generalize hS : serve kk c = S at *
              obtain ⟨c2, out⟩ := S
              have hpp : c2.run.pp = c.run.pp := hpp
              rw [← hpp] at hstep hok1 ck2
              repeat' (first | (refine rG 8 [0, 40, 41, 42, 43] ?_; ((try (refine wK ?_; intro _)))) | (refine ex_regk (id := 9) (ts := [0, 6, 40, 41, 42]) ?_; ((try (refine o_index (by decide) rfl rfl (by first | decide | assumption | omega) (by first | decide | assumption | omega) ?_)) <;> (try (refine o_load_ra (vs := trc ((u : Int), kk)) (by decide) rfl hv ?_)) <;> (try ((refine o_alloc_a (by decide) (fun b6 => ?_)))) <;> (try (first | refine o_store_a rfl rfl rfl rfl rfl ?_ | refine o_store_oa rfl rfl rfl (Nat.succ_pos _) rfl (by assumption) ?_)) <;> (try (refine ops_nilk ?_; intro _)) <;> (try ((first | refine keep_cons (v := .pointer _) rfl ?_ | refine keep_cons (v := _) rfl ?_) <;> (first | refine keep_cons (v := .pointer _) rfl ?_ | refine keep_cons (v := _) rfl ?_) <;> (first | refine keep_cons (v := .slice _ _ _) rfl ?_ | refine keep_cons (v := _) rfl ?_) <;> (first | refine keep_cons (v := .int _ _) rfl ?_ | refine keep_cons (v := _) rfl ?_) <;> (first | refine keep_cons (v := .int _ _) rfl ?_ | refine keep_cons (v := _) rfl ?_))) <;> (try refine keep_nil ?_))) | refine wC ?_ | (refine ex_split rfl ?_ ?_ <;> intro hc))
              refine Ex.ent ?_ (ent_clL (b := b6) (l' := trc ((u : Int), kk)) rfl)
              repeat' (first | (refine rG 10 [0, 6, 7, 40, 41, 42] ?_; ((try refine wO ?_) <;> (try (refine o_callB (by first | exact True.intro | (show _ < _; decide)) rfl rfl (hat _) (fun _ _ => ?_))) <;> (try (refine wK ?_; intro _)))) | refine wC ?_ | (refine ex_split rfl ?_ ?_ <;> intro hc))
              refine Ex.ent ?_ (ent_cell hLu)
              repeat' (first | (refine rG 11 [0, 6, 7, 40, 41, 42, 51] ?_; ((try (refine wK ?_; intro _)))) | (refine rG 12 [0, 6, 7, 8, 40, 41, 42] ?_; ((try refine wO ?_) <;> (try ((refine o_callH (hsrv _ _ inferInstance) (by first | exact True.intro | (show _ < _; decide)) rfl rfl (fun y hy => ?_); obtain ⟨oa2, oc2⟩ := y))) <;> (try (refine wK ?_; intro _)))) | refine wC ?_ | (refine ex_split rfl ?_ ?_ <;> intro hc))
              obtain ⟨le, sp, re, q, ⟨m, lt, sn, ⟨ops, sz, sl, ag, sk, fd⟩, P⟩, id, rows, taken⟩ := c2
              refine Ex.ent ?_ (ent_head (CE cb ⟨le, sp, re, q, ⟨m, lt, sn, (ops, sz, sl, ag, sk, fd), P⟩, id, rows, taken⟩))
              refine ex_ce fun rb pb mb oa ocp qa qc ra rc ta tc3 g1 g2 g3 => ?_
              refine Ex.ent ?_ (ent_head (RR rb pb mb oa ocp ⟨m, lt, sn, (ops, sz, sl, ag, sk, fd), P⟩))
              refine Ex.ent ?_ ent_RR
              have hstep : ({ x with cells := x.cells.set u (some ⟨le, sp, re, q, ⟨m, lt, sn, (ops, sz, sl, ag, sk, fd), P⟩, id, rows, taken⟩), pots := if sk = -1 then x.pots else match x.sinks[sk.toNat]?, x.pots[sk.toNat]? with | some k1, some p => x.pots.set sk.toNat (p.1, gv k1.1 (u : Int) p.1 p.2 out) | _, _ => x.pots } : Cs) = _ := hstep
              have hok1 : CsOk ({ x with cells := x.cells.set u (some ⟨le, sp, re, q, ⟨m, lt, sn, (ops, sz, sl, ag, sk, fd), P⟩, id, rows, taken⟩), pots := if sk = -1 then x.pots else match x.sinks[sk.toNat]?, x.pots[sk.toNat]? with | some k1, some p => x.pots.set sk.toNat (p.1, gv k1.1 (u : Int) p.1 p.2 out) | _, _ => x.pots } : Cs) n := hok1
              have oo2 := oaOk_set oo u (some (cb, ⟨le, sp, re, q, ⟨m, lt, sn, (ops, sz, sl, ag, sk, fd), P⟩, id, rows, taken⟩))
              have hpots : (coc x.bu x.ro x.qu x.ticks sa x.sinks.length sc_ L' pa x.pots.length pc_ bb)[0 + 12]? = some (.slice pa x.pots.length pc_) := by
                obtain ⟨x0, x1, x2, x3, x4, x5, x6, x7, rfl⟩ := list8 hL8
                rfl
              by_cases hsk : sk = -1
              · have hsd : (sk != -1) = false := by simp [hsk]
                rw [if_pos hsk] at hstep hok1
                repeat' (first | (refine rG 13 [0, 6, 8, 9, 40, 41, 42] ?_; ((try (refine wK ?_; intro _)))) | (refine rG 14 [0, 6, 8, 9, 40, 41, 42, 65] ?_; ((try (refine wK ?_; intro _)))) | (refine rG 16 [0, 40, 41, 42] ?_; ((try (refine wK ?_; intro _)))) | refine wC ?_ | (refine ex_split rfl ?_ ?_ <;> intro hc))
                rw [ei]
                refine ⟨T.length - (j + 1), by omega, _, ?_, _, j + 1, _, L'.set u (some (cb, ⟨le, sp, re, q, ⟨m, lt, sn, (ops, sz, sl, ag, sk, fd), P⟩, id, rows, taken⟩)), rfl, rfl, hstep, oo2, hok1, by omega, rfl⟩
                show Ent _ (ow 205 2 (some ad) T.length tc (T.flatMap trc) * (cl true b (coc x.bu x.ro x.qu x.ticks sa x.sinks.length sc_ (L'.set u (some (cb, ⟨le, sp, re, q, ⟨m, lt, sn, (ops, sz, sl, ag, sk, fd), P⟩, id, rows, taken⟩))) pa x.pots.length pc_ bb) 102 (0, 0) * (rs sa (x.sinks.flatMap sc) * (CEs (L'.set u (some (cb, ⟨le, sp, re, q, ⟨m, lt, sn, (ops, sz, sl, ag, sk, fd), P⟩, id, rows, taken⟩))) * (ow 108 4 pa x.pots.length pc_ (x.pots.flatMap potc) * (cl true bb (bs.map Bd.bcell) 146 (0, 0) * (Bd.bm bs * H)))))))
                rw [coc_same hLu, CEs_set L' u huL (cb, ⟨le, sp, re, q, ⟨m, lt, sn, (ops, sz, sl, ag, sk, fd), P⟩, id, rows, taken⟩)]
                refine Ent.trans ?_ (Ent.trans (ce_mk (H := CEs (L'.set u none) * (ow 205 2 (some ad) T.length tc (T.flatMap trc) * (cl true b (coc x.bu x.ro x.qu x.ticks sa x.sinks.length sc_ L' pa x.pots.length pc_ bb) 102 (0, 0) * (rs sa (x.sinks.flatMap sc) * (ow 108 4 pa x.pots.length pc_ (x.pots.flatMap potc) * (cl true bb (bs.map Bd.bcell) 146 (0, 0) * (Bd.bm bs * H))))))) (b := cb) (le := le) (sp := sp) (re := re) (id := id) (run := ⟨m, lt, sn, (ops, sz, sl, ag, sk, fd), P⟩) (rb := rb) (pb := pb) (mb := mb) (oa := oa) (ocp := ocp) (qa := qa) (ra := ra) (ta := ta) g1 g2 g3) ent_take)
                exact ent_take
              · have hsd : (sk != -1) = true := by simp [hsk]
                obtain ⟨hs0, hs1⟩ := mayP_sink ck2 hsk
                have hs0 : 0 ≤ sk := hs0
                have hs1 : sk.toNat < x.sinks.length := hs1
                have hs2 : sk.toNat < x.pots.length := by rw [ok.pots]; exact hs1
                have hb0 : sk < (x.pots.length : Int) := by omega
                have hb1 : sk < (x.sinks.length : Int) := by omega
                rw [if_neg hsk, List.getElem?_eq_getElem hs1, List.getElem?_eq_getElem hs2] at hstep hok1
                have hstF : ({ x with cells := x.cells.set u (some ⟨le, sp, re, q, ⟨m, lt, sn, (ops, sz, sl, ag, sk, fd), P⟩, id, rows, taken⟩), pots := x.pots.set sk.toNat (x.pots[sk.toNat].1, gv (x.sinks[sk.toNat]).1 (u : Int) x.pots[sk.toNat].1 x.pots[sk.toNat].2 out) } : Cs) = _ := hstep
                have hokF : CsOk ({ x with cells := x.cells.set u (some ⟨le, sp, re, q, ⟨m, lt, sn, (ops, sz, sl, ag, sk, fd), P⟩, id, rows, taken⟩), pots := x.pots.set sk.toNat (x.pots[sk.toNat].1, gv (x.sinks[sk.toNat]).1 (u : Int) x.pots[sk.toNat].1 x.pots[sk.toNat].2 out) } : Cs) n := hok1
                refine Ex.rd_some (a := pa) (l := x.pots.flatMap potc) (by rw [flat_len potc_len]; omega) (fun pad ha => ?_)
                subst ha
                refine Ex.rd_some (a := sa) (l := x.sinks.flatMap sc) (by rw [flat_len sc_len]; omega) (fun sad ha => ?_)
                subst ha
                have hvs : sub (x.sinks.flatMap sc) (sk.toNat * 5) 5 = some (sc x.sinks[sk.toNat]) := sub_flat sc_len x.sinks sk.toNat hs1
                have hgive := giveO pad x.pots pc_ (ow 67 5 oa2 out.length oc2 (out.flatMap rwc)) x.sinks[sk.toNat] (u : Int) oa2 out out.length oc2 sk.toNat hs2 rfl rfl hSl
                have hpl : (x.pots.set sk.toNat (x.pots[sk.toNat].1, gv (x.sinks[sk.toNat]).1 (u : Int) x.pots[sk.toNat].1 x.pots[sk.toNat].2 out)).length = x.pots.length := List.length_set
                generalize x.pots.set sk.toNat (x.pots[sk.toNat].1, gv (x.sinks[sk.toNat]).1 (u : Int) x.pots[sk.toNat].1 x.pots[sk.toNat].2 out) = pots2 at *
                generalize x.sinks[sk.toNat] = k1 at *
                repeat' (first | (refine rG 13 [0, 6, 8, 9, 40, 41, 42] ?_; ((try (refine wK ?_; intro _)))) | (refine rG 14 [0, 6, 8, 9, 40, 41, 42, 65] ?_; ((try (refine wK ?_; intro _)))) | refine wC ?_ | (refine ex_split rfl ?_ ?_ <;> intro hc))
                repeat' (first | (refine rA 15 [0, 40, 41, 42] 18 ?_; (refine os_butP (ow 108 4 (some pad) x.pots.length pc_ (x.pots.flatMap potc)) ?_); ((refine lQ 0 ?_; ((refine lQ 1 ?_; ((refine lQ 2 ?_; ((refine lC (v := ?_) 3 ?_ ?_; rotate_left; (focus ((refine o_load_s (v := .slice (some pad) x.pots.length pc_) (by decide) rfl hpots ?_) <;> exact lL)); ((refine lQ 4 ?_; ((refine lQ 5 ?_; ((refine lQ 6 ?_; ((refine lQ 7 ?_; ((refine lQ 8 ?_; ((refine lQ 9 ?_; ((refine lC (v := ?_) 10 ?_ ?_; rotate_left; (focus ((refine o_load_s (v := .slice (some sad) x.sinks.length sc_) (by decide) rfl rfl ?_) <;> exact lL)); ((refine lQ 11 ?_; ((refine lQ 12 ?_; ((refine lC (v := ?_) 13 ?_ ?_; rotate_left; (focus ((refine o_load_ra (vs := sc k1) (by decide) rfl hvs ?_) <;> exact lL)); ((refine lQ 14 ?_; ((refine lQ 15 ?_; ((refine lQ 16 ?_; ((refine oN 17 ?_ <;> ((refine o_call hgive (by first | exact True.intro | (show _ < _; decide)) rfl rfl (fun _ _ => ?_))) <;> (refine os_nil ?_) <;> ((refine dK ?_; intro _))))))))))))))))))))))))))))))))))))))) | refine wC ?_ | (refine ex_split rfl ?_ ?_ <;> intro hc))
                all_goals
                  repeat' (first | (refine rG 16 [0, 40, 41, 42] ?_; ((try (refine wK ?_; intro _)))) | refine wC ?_ | (refine ex_split rfl ?_ ?_ <;> intro hc))
                  rw [ei]
                  have oo3 : OaOk ({ x with cells := x.cells.set u (some ⟨le, sp, re, q, ⟨m, lt, sn, (ops, sz, sl, ag, sk, fd), P⟩, id, rows, taken⟩), pots := pots2 } : Cs) ⟨some sad, sc_, L'.set u (some (cb, ⟨le, sp, re, q, ⟨m, lt, sn, (ops, sz, sl, ag, sk, fd), P⟩, id, rows, taken⟩)), some pad, pc_, bb, bs⟩ := ⟨oo2.l8, oo2.cells, by show pots2.length ≤ pc_; rw [hpl]; exact oo.pc, oo2.sc, oo2.b8, oo2.told, oo2.tc⟩
                  refine ⟨T.length - (j + 1), by omega, _, ?_, _, j + 1, ({ x with cells := x.cells.set u (some ⟨le, sp, re, q, ⟨m, lt, sn, (ops, sz, sl, ag, sk, fd), P⟩, id, rows, taken⟩), pots := pots2 } : Cs), L'.set u (some (cb, ⟨le, sp, re, q, ⟨m, lt, sn, (ops, sz, sl, ag, sk, fd), P⟩, id, rows, taken⟩)), rfl, rfl, hstF, oo3, hokF, by omega, rfl⟩
                  show Ent _ (ow 205 2 (some ad) T.length tc (T.flatMap trc) * (cl true b (coc x.bu x.ro x.qu x.ticks (some sad) x.sinks.length sc_ (L'.set u (some (cb, ⟨le, sp, re, q, ⟨m, lt, sn, (ops, sz, sl, ag, sk, fd), P⟩, id, rows, taken⟩))) (some pad) pots2.length pc_ bb) 102 (0, 0) * (rs (some sad) (x.sinks.flatMap sc) * (CEs (L'.set u (some (cb, ⟨le, sp, re, q, ⟨m, lt, sn, (ops, sz, sl, ag, sk, fd), P⟩, id, rows, taken⟩))) * (ow 108 4 (some pad) pots2.length pc_ (pots2.flatMap potc) * (cl true bb (bs.map Bd.bcell) 146 (0, 0) * (Bd.bm bs * H)))))))
                  rw [coc_same hLu, CEs_set L' u huL (cb, ⟨le, sp, re, q, ⟨m, lt, sn, (ops, sz, sl, ag, sk, fd), P⟩, id, rows, taken⟩), hpl]
                  refine Ent.trans ?_ (Ent.trans (ce_mk (H := CEs (L'.set u none) * (ow 205 2 (some ad) T.length tc (T.flatMap trc) * (cl true b (coc x.bu x.ro x.qu x.ticks (some sad) x.sinks.length sc_ L' (some pad) x.pots.length pc_ bb) 102 (0, 0) * (rs (some sad) (x.sinks.flatMap sc) * (ow 108 4 (some pad) x.pots.length pc_ (pots2.flatMap potc) * (cl true bb (bs.map Bd.bcell) 146 (0, 0) * (Bd.bm bs * H))))))) (b := cb) (le := le) (sp := sp) (re := re) (id := id) (run := ⟨m, lt, sn, (ops, sz, sl, ag, sk, fd), P⟩) (rb := rb) (pb := pb) (mb := mb) (oa := oa) (ocp := ocp) (qa := qa) (ra := ra) (ta := ta) g1 g2 g3) ent_take)
                  exact ent_take
          · have hil : j = T.length := by omega
            subst hil
            have hd : decide ((T.length : Int) < (T.length : Int)) = false := by simp
            repeat' (first | (refine rG 8 [0, 40, 41, 42, 43] ?_; ((try (refine wK ?_; intro _)))) | refine wC ?_ | (refine ex_split rfl ?_ ?_ <;> intro hc))
            have hxe : x = serveAll s := by rw [hx, List.take_of_length_le (by omega)]; rfl
            refine fin (.inl rfl) () (resl0 rfl) trivial ?_
            rw [← hxe]
            refine Ent.trans ?_ (co_mk oo)
            rw [COr_flat]
            exact ent_take
end Go.Proofs.YtcelailgedndnaaGreatS
