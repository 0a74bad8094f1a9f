import Derived.Test.YtffhbdgoikkngaaXB
import Derived.Test.YtffhbdgoikkngaaUm
namespace Go.Proofs.YtffhbdgoikkngaaS
open Go.RowKit
set_option linter.unusedVariables false
set_option linter.unusedSimpArgs false
/-- A gift, without memory: of whom, its values. -/
abbrev Gt : Type := Nat × List Int
def rws (F : BitVec 64) (t : Nat) (vs : List Int) : List Rw := vs.map fun v => (0, 0, v, 0, F &&& bt (t : Int))
def st (ag : Int) (p : Int × Int) (vs : List Int) : Int × Int := vs.foldl (fun p v => (IntKind.i64.wrap (p.1 + 1), tk p.1 ag p.2 v 1)) p
def on (F : BitVec 64) (g : Gt) : Bool := hs F (g.1 : Int) && !g.2.isEmpty
def wOf (F : BitVec 64) (w : BitVec 64) (G : List Gt) : BitVec 64 := G.foldl (fun w g => if on F g then w ||| bt (g.1 : Int) else w) w
def kOf (F : BitVec 64) (ks : List Int) (G : List Gt) : List Int := G.foldl (fun ks g => if on F g then mput ks (g.1 : Int) else ks) ks
def str (F : BitVec 64) (G : List Gt) : List Int := G.flatMap fun g => if hs F (g.1 : Int) then g.2 else []
def pg (F : BitVec 64) (ag : Int) (P : Pt) (G : List Gt) : Pt := G.foldl (fun P g => gv F (g.1 : Int) ag P (rws F g.1 g.2)) P
theorem bl_in (F x : BitVec 64) : bl (F &&& x) F = true := (bl_iff _ _).2 fun i _ h => by rw [gm, Bool.and_eq_true] at h; exact h.1
theorem or_self2 (w b : BitVec 64) : w ||| b ||| b = w ||| b := by rw [BitVec.or_assoc, BitVec.or_self]
theorem gv_rws (F : BitVec 64) (t : Nat) (ag : Int) (vs : List Int) (p : Int × Int) (w : BitVec 64) : gv F (t : Int) ag (p.1, p.2, w) (rws F t vs) = if hs F (t : Int) then ((st ag p vs).1, (st ag p vs).2, if vs.isEmpty then w else w ||| bt (t : Int)) else (p.1, p.2, w) := by
  cases h : hs F (t : Int) with
  | false =>
    have : ∀ r ∈ rws F t vs, tkn F (t : Int) r = false := fun r _ => by unfold tkn; rw [h]; rfl
    have e := gv_no F (t : Int) ag (p.1, p.2, w) (rws F t vs) h
    rw [e]; rfl
  | true =>
    rw [if_pos rfl]
    induction vs generalizing p w with
    | nil => rfl
    | cons v vs ih =>
      have h1 : g1 F (t : Int) ag (p.1, p.2, w) (0, 0, v, 0, F &&& bt (t : Int)) = (IntKind.i64.wrap (p.1 + 1), tk p.1 ag p.2 v 1, w ||| bt (t : Int)) := by
        unfold g1
        rw [if_pos (by unfold tkn; rw [h]; exact bl_in F _)]
      show gv F (t : Int) ag (g1 F (t : Int) ag (p.1, p.2, w) (0, 0, v, 0, F &&& bt (t : Int))) (rws F t vs) = _
      rw [h1, ih (IntKind.i64.wrap (p.1 + 1), tk p.1 ag p.2 v 1) (w ||| bt (t : Int))]
      cases vs with
      | nil => rfl
      | cons v2 vs2 => simp [or_self2]; exact ⟨rfl, rfl⟩
theorem st_app (ag : Int) (p : Int × Int) (a b : List Int) : st ag p (a ++ b) = st ag (st ag p a) b := List.foldl_append
theorem pg_eq (F : BitVec 64) (ag : Int) (G : List Gt) (p : Int × Int) (w : BitVec 64) : pg F ag (p.1, p.2, w) G = ((st ag p (str F G)).1, (st ag p (str F G)).2, wOf F w G) := by
  induction G generalizing p w with
  | nil => rfl
  | cons g G ih =>
    show pg F ag (gv F (g.1 : Int) ag (p.1, p.2, w) (rws F g.1 g.2)) G = _
    rw [gv_rws]
    have hs1 : str F (g :: G) = (if hs F (g.1 : Int) then g.2 else []) ++ str F G := rfl
    have hw1 : wOf F w (g :: G) = wOf F (if on F g then w ||| bt (g.1 : Int) else w) G := rfl
    rw [hs1, hw1, st_app]
    unfold on
    cases h : hs F (g.1 : Int) with
    | false => rw [if_neg (by decide), ih p w]; rfl
    | true =>
      rw [if_pos rfl, if_pos rfl]
      rw [ih (st ag p g.2) (if g.2.isEmpty then w else w ||| bt (g.1 : Int))]
      cases g.2.isEmpty <;> rfl
/-- What a value is, whatever the order. -/
def Q (ag : Int) (vs : List Int) (x : Int) : Prop := (ag = 1 ∧ x = vs.length) ∨ (ag = 2 ∧ x = IntKind.i64.wrap vs.sum) ∨ (ag = 3 ∧ (vs = [] → x = 0) ∧ (vs ≠ [] → x ∈ vs ∧ ∀ y ∈ vs, x ≤ y)) ∨ (ag = 4 ∧ (vs = [] → x = 0) ∧ (vs ≠ [] → x ∈ vs ∧ ∀ y ∈ vs, y ≤ x))
theorem wrap_add (a b : Int) : IntKind.i64.wrap (IntKind.i64.wrap a + b) = IntKind.i64.wrap (a + b) := by simp only [IntKind.wrap_i64]; omega
theorem Q_step (ag : Int) (vs : List Int) (x v : Int) (hl : vs.length ≤ 1000) (h : Q ag vs x) : Q ag (vs ++ [v]) (tk (vs.length : Int) ag x v 1) := by
  rcases h with ⟨rfl, hx⟩ | ⟨rfl, hx⟩ | ⟨rfl, h0, h1⟩ | ⟨rfl, h0, h1⟩
  · left
    refine ⟨rfl, ?_⟩
    show IntKind.i64.wrap (x + 1) = _
    rw [hx, List.length_append, IntKind.wrap_i64]
    simp
    omega
  · right; left
    refine ⟨rfl, ?_⟩
    show IntKind.i64.wrap (x + v) = _
    rw [hx, wrap_add, List.sum_append]
    simp
  · right; right; left
    refine ⟨rfl, fun h => absurd h (by simp), fun _ => ?_⟩
    by_cases hv : vs = []
    · subst hv
      show tk 0 3 x v 1 ∈ [v] ∧ _
      have : tk 0 3 x v 1 = v := rfl
      rw [show (([] : List Int).length : Int) = 0 from rfl, this]
      simp
    · obtain ⟨m1, m2⟩ := h1 hv
      have hc : ((vs.length : Int) == 0) = false := by
        rw [beq_eq_false_iff_ne]; have := List.length_pos_iff.2 hv; omega
      have e : tk (vs.length : Int) 3 x v 1 = if v < x then v else x := by
        unfold tk; rw [hc]; simp
      rw [e]
      split
      · refine ⟨by simp, fun y hy => ?_⟩
        rcases List.mem_append.1 hy with hy | hy
        · have := m2 y hy; omega
        · obtain rfl : y = v := by simpa using hy
          omega
      · refine ⟨List.mem_append_left _ m1, fun y hy => ?_⟩
        rcases List.mem_append.1 hy with hy | hy
        · exact m2 y hy
        · obtain rfl : y = v := by simpa using hy
          omega
  · right; right; right
    refine ⟨rfl, fun h => absurd h (by simp), fun _ => ?_⟩
    by_cases hv : vs = []
    · subst hv
      show tk 0 4 x v 1 ∈ [v] ∧ _
      have : tk 0 4 x v 1 = v := rfl
      rw [show (([] : List Int).length : Int) = 0 from rfl, this]
      simp
    · obtain ⟨m1, m2⟩ := h1 hv
      have hc : ((vs.length : Int) == 0) = false := by
        rw [beq_eq_false_iff_ne]; have := List.length_pos_iff.2 hv; omega
      have e : tk (vs.length : Int) 4 x v 1 = if x < v then v else x := by
        unfold tk; rw [hc]; simp
      rw [e]
      split
      · refine ⟨by simp, fun y hy => ?_⟩
        rcases List.mem_append.1 hy with hy | hy
        · have := m2 y hy; omega
        · obtain rfl : y = v := by simpa using hy
          omega
      · refine ⟨List.mem_append_left _ m1, fun y hy => ?_⟩
        rcases List.mem_append.1 hy with hy | hy
        · exact m2 y hy
        · obtain rfl : y = v := by simpa using hy
          omega
theorem st_Q (ag : Int) : ∀ (vs pre : List Int) (x : Int), (pre ++ vs).length ≤ 1000 → Q ag pre x → (st ag ((pre.length : Int), x) vs).1 = ((pre ++ vs).length : Int) ∧ Q ag (pre ++ vs) (st ag ((pre.length : Int), x) vs).2
  | [], pre, x, _, h => by simp only [List.append_nil]; exact ⟨rfl, h⟩
  | v :: vs, pre, x, hl, h => by
    have hl2 : pre.length ≤ 999 := by rw [List.length_append, List.length_cons] at hl; omega
    have h1 := Q_step ag pre x v (by omega) h
    have e : IntKind.i64.wrap ((pre.length : Int) + 1) = ((pre ++ [v]).length : Int) := by rw [List.length_append, IntKind.wrap_i64]; simp; omega
    have := st_Q ag vs (pre ++ [v]) (tk (pre.length : Int) ag x v 1) (by simpa using hl) h1
    rw [List.append_assoc, List.singleton_append] at this
    show (st ag (IntKind.i64.wrap ((pre.length : Int) + 1), tk (pre.length : Int) ag x v 1) vs).1 = _ ∧ Q ag _ (st ag (IntKind.i64.wrap ((pre.length : Int) + 1), tk (pre.length : Int) ag x v 1) vs).2
    rw [e]; exact this
theorem Q_0 (ag : Int) (h : 1 ≤ ag ∧ ag ≤ 4) : Q ag [] 0 := by
  unfold Q
  have : ag = 1 ∨ ag = 2 ∨ ag = 3 ∨ ag = 4 := by omega
  rcases this with rfl | rfl | rfl | rfl
  · left; exact ⟨rfl, rfl⟩
  · right; left; exact ⟨rfl, rfl⟩
  · right; right; left; exact ⟨rfl, fun _ => rfl, fun h => absurd rfl h⟩
  · right; right; right; exact ⟨rfl, fun _ => rfl, fun h => absurd rfl h⟩
theorem Q_rot (ag : Int) (a b : List Int) (x y : Int) (h : Q ag (a ++ b) x) (k : Q ag (b ++ a) y) : x = y := by
  have hm : ∀ z, z ∈ a ++ b ↔ z ∈ b ++ a := fun z => by rw [List.mem_append, List.mem_append, or_comm]
  have hn : a ++ b = [] ↔ b ++ a = [] := by simp [and_comm]
  rcases h with ⟨rfl, hx⟩ | ⟨rfl, hx⟩ | ⟨rfl, h0, h1⟩ | ⟨rfl, h0, h1⟩ <;> rcases k with ⟨hk, hy⟩ | ⟨hk, hy⟩ | ⟨hk, k0, k1⟩ | ⟨hk, k0, k1⟩ <;> first | (exact absurd hk (by decide)) | skip
  · rw [hx, hy, List.length_append, List.length_append, Nat.add_comm]
  · rw [hx, hy, List.sum_append, List.sum_append, Int.add_comm]
  · by_cases he : a ++ b = []
    · rw [h0 he, k0 (hn.1 he)]
    · obtain ⟨p1, p2⟩ := h1 he
      obtain ⟨q1, q2⟩ := k1 (fun e => he (hn.2 e))
      have := p2 y ((hm y).2 q1)
      have := q2 x ((hm x).1 p1)
      omega
  · by_cases he : a ++ b = []
    · rw [h0 he, k0 (hn.1 he)]
    · obtain ⟨p1, p2⟩ := h1 he
      obtain ⟨q1, q2⟩ := k1 (fun e => he (hn.2 e))
      have := p2 y ((hm y).2 q1)
      have := q2 x ((hm x).1 p1)
      omega
theorem st_rot (ag : Int) (h : 1 ≤ ag ∧ ag ≤ 4) (a b : List Int) (hl : (a ++ b).length ≤ 1000) : st ag (0, 0) (a ++ b) = st ag (0, 0) (b ++ a) := by
  obtain ⟨p1, p2⟩ := st_Q ag (a ++ b) [] 0 (by simpa using hl) (Q_0 ag h)
  obtain ⟨q1, q2⟩ := st_Q ag (b ++ a) [] 0 (by simpa [Nat.add_comm] using hl) (Q_0 ag h)
  have e1 : (st ag (0, 0) (a ++ b)).1 = (st ag (0, 0) (b ++ a)).1 := by
    refine p1.trans (Eq.trans ?_ q1.symm)
    simp [Int.add_comm]
  have e2 : (st ag (0, 0) (a ++ b)).2 = (st ag (0, 0) (b ++ a)).2 := Q_rot ag a b _ _ p2 q2
  exact Prod.ext e1 e2
theorem wOf_bit (F : BitVec 64) (i : Nat) (hi : i < 64) (G : List Gt) (hG : ∀ g ∈ G, g.1 < 64) (w : BitVec 64) : (wOf F w G).getLsbD i = (w.getLsbD i || G.any (fun g => on F g && decide (g.1 = i))) := by
  induction G generalizing w with
  | nil => simp [wOf]
  | cons g G ih =>
    have hg : g.1 < 64 := hG g (List.mem_cons_self ..)
    show (wOf F (if on F g then w ||| bt (g.1 : Int) else w) G).getLsbD i = _
    rw [ih (fun x hx => hG x (List.mem_cons_of_mem _ hx)), List.any_cons]
    cases h : on F g with
    | false => simp
    | true =>
      rw [if_pos rfl, gj, bt_get g.1 i hg hi]
      have : decide (i = g.1) = decide (g.1 = i) := by rw [Bool.eq_iff_iff]; simp [eq_comm]
      rw [this, Bool.true_and, Bool.or_assoc]
theorem wOf_rot (F : BitVec 64) (a b : List Gt) (ha : ∀ g ∈ a, g.1 < 64) (hb : ∀ g ∈ b, g.1 < 64) : wOf F 0 (a ++ b) = wOf F 0 (b ++ a) := (bext _ _).2 fun i hi => by
  rw [wOf_bit F i hi _ (fun g hg => by rcases List.mem_append.1 hg with h | h; exact ha g h; exact hb g h), wOf_bit F i hi _ (fun g hg => by rcases List.mem_append.1 hg with h | h; exact hb g h; exact ha g h), List.any_append, List.any_append, Bool.or_comm (a.any _)]
theorem mput_mem (ks : List Int) (k x : Int) : x ∈ mput ks k ↔ x ∈ ks ∨ x = k := by
  unfold mput
  split
  · exact ⟨.inl, fun h => by rcases h with h | rfl; exact h; assumption⟩
  · simp
theorem mput_nodup (ks : List Int) (k : Int) (h : ks.Nodup) : (mput ks k).Nodup := by
  unfold mput
  split
  · exact h
  · rename_i hk
    rw [List.nodup_append]
    refine ⟨h, by simp, fun a ha b hb => ?_⟩
    obtain rfl : b = k := by simpa using hb
    intro e; subst e; exact hk ha
theorem kOf_facts (F : BitVec 64) (G : List Gt) (ks : List Int) (h : ks.Nodup) : (kOf F ks G).Nodup ∧ ∀ x, x ∈ kOf F ks G ↔ x ∈ ks ∨ ∃ g ∈ G, on F g = true ∧ x = (g.1 : Int) := by
  induction G generalizing ks with
  | nil => exact ⟨h, fun x => by simp [kOf]⟩
  | cons g G ih =>
    show (kOf F (if on F g then mput ks (g.1 : Int) else ks) G).Nodup ∧ ∀ x, x ∈ kOf F (if on F g then mput ks (g.1 : Int) else ks) G ↔ _
    cases hg : on F g with
    | false =>
      rw [if_neg (by decide)]
      obtain ⟨h1, h2⟩ := ih ks h
      refine ⟨h1, fun x => (h2 x).trans ?_⟩
      simp [hg]
    | true =>
      rw [if_pos rfl]
      obtain ⟨h1, h2⟩ := ih _ (mput_nodup ks (g.1 : Int) h)
      refine ⟨h1, fun x => (h2 x).trans ?_⟩
      rw [mput_mem]
      simp [hg, or_assoc]
theorem ids_nodup (m : BitVec 64) : (ids m).Nodup := List.nodup_range.filter _
theorem ids_mem (m : BitVec 64) (k : Nat) : k ∈ ids m ↔ k < 64 ∧ m.getLsbD k = true := by unfold ids; rw [List.mem_filter, List.mem_range]
theorem kOf_len (F : BitVec 64) (G : List Gt) (hG : ∀ g ∈ G, g.1 < 64) : (ids (wOf F 0 G)).length = (kOf F [] G).length := by
  obtain ⟨h1, h2⟩ := kOf_facts F G [] List.nodup_nil
  have hp : (idi (wOf F 0 G)).Perm (kOf F [] G) := by
    refine (List.perm_ext_iff_of_nodup ?_ h1).2 fun x => ?_
    · unfold idi
      exact List.Pairwise.map _ (fun a b h => by omega) (ids_nodup _)
    · unfold idi
      rw [List.mem_map, h2]
      constructor
      · rintro ⟨k, hk, rfl⟩
        obtain ⟨hk1, hk2⟩ := (ids_mem _ k).1 hk
        rw [wOf_bit F k hk1 G hG, gz, Bool.false_or, List.any_eq_true] at hk2
        obtain ⟨g, hg, hg2⟩ := hk2
        rw [Bool.and_eq_true, decide_eq_true_eq] at hg2
        exact .inr ⟨g, hg, hg2.1, by rw [hg2.2]⟩
      · rintro (h | ⟨g, hg, hg1, rfl⟩)
        · cases h
        · refine ⟨g.1, (ids_mem _ _).2 ⟨hG g hg, ?_⟩, rfl⟩
          rw [wOf_bit F g.1 (hG g hg) G hG, List.any_eq_true.2 ⟨g, hg, by simp [hg1]⟩, Bool.or_true]
  have := hp.length_eq
  unfold idi at this
  rwa [List.length_map] at this
end Go.Proofs.YtffhbdgoikkngaaS
