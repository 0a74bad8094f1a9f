/- Frames kept short; regions that draw their order. No seat's program is named here. -/
import Derived.Test.YtffhbdgoikkngaaSe
namespace Go.Proofs.YtffhbdgoikkngaaS
open Go.RowKit
set_option linter.unusedVariables false
set_option linter.unusedSimpArgs false

variable {P : Program} {n : Nat} {ops : Array Oper} {rest : List Oper} {e : Env} {H : HP} {Φ : Post} {d : Nat} {ty : TypeId} {ps : String} {af : Array Edge}

/-! ### Behind a region only what is used later is kept -/
def keepN : List Nat → Env → Env → (Env → Prop) → Prop
  | [], _, g, Q => Q g
  | t :: ts, e, g, Q => keepN ts e (put g t (e t)) Q
theorem keepN_self : ∀ (ts : List Nat) (e : Env) (Q : Env → Prop), keepN ts e e Q → Q e
  | [], _, _, h => h
  | t :: ts, e, Q, h => by
    unfold keepN at h
    rw [put_same rfl] at h
    exact keepN_self ts e Q h
theorem keep_cons {t : Nat} {ts : List Nat} {g : Env} {v : Value} {Q : Env → Prop} (h : e t = v) (k : keepN ts e (put g t v) Q) : keepN (t :: ts) e g Q := by
  unfold keepN; rw [h]; exact k
theorem keep_nil {g : Env} {Q : Env → Prop} (k : Q g) : keepN [] e g Q := k
def keepP (ts : List Nat) (Φ : Post) : Post := fun x e H => x = .normal ∧ ∀ g, keepN ts e g (fun e' => Φ .normal e' H)
theorem keep_mono {c : Code} {ts : List Nat} (h : Ex P n c e H (keepP ts Φ)) : Ex P n c e H Φ := h.mono fun x e' H' ⟨hx, hk⟩ => by subst hx; exact keepN_self ts e' _ (hk e')
theorem ex_regk {id : Nat} {l : List Oper} {ts : List Nat} (h : Ops P n l.toArray l e H (keepP ts Φ)) : Ex P n (.region id l.toArray false) e H Φ := keep_mono (ex_region h)
theorem ops_nilk {ts : List Nat} (h : ∀ g, keepN ts e g (fun e' => Φ .normal e' H)) : Ops P n ops [] e H (keepP ts Φ) := ops_nil ⟨rfl, h⟩

/-! ### Regions that draw their order and only look -/
def QO (P : Program) (n : Nat) (ops : Array Oper) (l : List Oper) (e : Env) (H : HP) (K : Env → Prop) : Prop :=
  ∀ a w0 F, Rep n e a → wpQuiet P ops (fun w => Sat w0 w (H * F)) (fun a' => ∃ e', Rep n e' a' ∧ K e') l a
section
variable {K : Env → Prop}
theorem q_nil (h : K e) : QO P n ops [] e H K := fun _ _ _ r => wpQuiet_nil ⟨e, r, h⟩
theorem q_ofV {op : Op} {v : Value} (hd : d < n) (h : V P (execOp (ev e) ⟨some d, op, ty, ps, af, none⟩) H (Next.value v)) (k : QO P n ops rest (put e d v) H K) : QO P n ops (⟨some d, op, ty, ps, af, none⟩ :: rest) e H K := fun a w0 F r =>
  wpQuiet_step fun K' hK => by
    rw [if_pos (by simp [Region.wanted])]
    refine ⟨v, fun w s => ?_, hK _ (k _ w0 F (r.put hd v))⟩
    unfold Oper.quietAt
    rw [r.eval, h w0 w F s]
    exact ⟨rfl, rfl⟩
theorem q_rfl {op : Op} {v : Value} (hd : d < n) (h : ∀ w, (execOp (ev e) ⟨some d, op, ty, ps, af, none⟩).run P w = .ok (.value v) w) (k : QO P n ops rest (put e d v) H K) :
    QO P n ops (⟨some d, op, ty, ps, af, none⟩ :: rest) e H K := q_ofV hd (V.ofRun h) k
/-- The region. -/
class Mixed (P : Program) : Prop where mixed : P.follows .mixedOrders = true
theorem ex_quiet {id : Nat} {l : List Oper} [m : Mixed P] (hB : Region.lexB .any l.toArray = true) (h : QO P n l.toArray l e H (fun e' => Φ .normal e' H)) : Ex P n (.region id l.toArray true) e H Φ := fun a w0 w F r s =>
  wp_region_quiet (C := fun w => Sat w0 w (H * F)) m.mixed hB s.drawn (by
    have := h a w0 F r
    refine wpQuiet_mono' (fun a' ⟨e', r', k⟩ w' s' => ⟨e', H, r', k, s'⟩) _ _ this)
where
  wpQuiet_mono' {C : World → Prop} {Q Q' : Act → Prop} {ops : Array Oper} (k : ∀ a, Q a → Q' a) : ∀ (l : List Oper) (a : Act), wpQuiet P ops C Q l a → wpQuiet P ops C Q' l a
    | [], a, h => k a h
    | o :: rest, a, h => by
      unfold wpQuiet at h ⊢
      split
      · rename_i hw; rw [if_pos hw] at h; exact Oper.quiet_mono (fun a h => wpQuiet_mono' k rest a h) h
      · rename_i hw; rw [if_neg hw] at h; exact wpQuiet_mono' k rest _ h
end

/-! ### Regions that draw their order, whatever is in them -/
def OA (P : Program) (n : Nat) (ops : Array Oper) (fuel : Nat) (listed : Array Bool) (e : Env) (H : HP) (K : Env → HP → Prop) : Prop :=
  ∀ a w0 w F, Rep n e a → Sat w0 w (H * F) → wpAny P .any ops (QQ w0 F n (fun x e H => x = .normal ∧ K e H)) fuel listed a w
section
variable {K : Env → HP → Prop} {fuel : Nat} {listed : Array Bool}
theorem oa_done (hr : Region.ready .any ops listed = []) (h : K e H) : OA P n ops 0 listed e H K := fun a w0 w F r s => ⟨hr, e, H, r, ⟨rfl, h⟩, s⟩
/-- One that only reckons may be taken first. -/
theorem oa_first (i : Nat) {op : Op} {v : Value} (hi : ops[i]? = some ⟨some d, op, ty, ps, af, none⟩) (hns : Region.noSelect ops = true) (hfree : Region.free .any ops listed i = true) (hready : (Region.ready .any ops listed).contains i = true) (hd : d < n)
    (h : ∀ w, (execOp (ev e) ⟨some d, op, ty, ps, af, none⟩).run P w = .ok (.value v) w) (k : OA P n ops fuel (listed.setIfInBounds i true) (put e d v) H K) : OA P n ops (fuel + 1) listed e H K := fun a w0 w F r s => by
  refine wpAny_first (v := v) hi (Region.noSelect_spec hns) ?_ fuel listed a w (Region.free_spec hi hfree) (by simpa using hready) (.inl ⟨by simp [Region.wanted], fun w => by rw [r.eval]; exact h w⟩) (k _ w0 w F (r.put hd v) s)
  intro c a w hq
  obtain ⟨e', H', _, hh, _⟩ := hq
  exact absurd hh.1 (by simp)
/-- Where one alone can come next, it comes. -/
theorem oa_one (i : Nat) {o : Oper} (hr : Region.ready .any ops listed = [i]) (hi : ops[i]? = some o) (hg : o.guard = none)
    (h : Ops P n ops [o] e H (fun x e' H' => x = .normal ∧ OA P n ops fuel (listed.setIfInBounds i true) e' H' K)) : OA P n ops (fuel + 1) listed e H K := fun a w0 w F r s => by
  refine And.intro (fun h0 => by rw [hr] at h0; simp at h0) (fun j hj => ?_)
  rw [hr] at hj
  obtain rfl : j = i := by simpa using hj
  have h1 := h a w0 w F r s
  unfold wpList at h1
  unfold wpOp
  simp only [hi]
  have hw : Region.wanted o (yielded ops a.tmps) = true := by simp [Region.wanted, hg]
  rw [if_pos hw] at h1 ⊢
  rcases h1 with h1 | ⟨_, a', w', e', H', _, ⟨hx, _⟩, _⟩
  · left
    unfold Oper.wp at h1 ⊢
    revert h1
    generalize (execOp a.eval o).run P w = res
    have step : ∀ a w, wpList P ops (QQ w0 F n (fun x e' H' => x = .normal ∧ OA P n ops fuel (listed.setIfInBounds j true) e' H' K)) [] a w → wpAny P .any ops (QQ w0 F n (fun x e H => x = .normal ∧ K e H)) fuel (listed.setIfInBounds j true) a w :=
      fun a w ⟨e', H', r', ⟨_, ho⟩, s'⟩ => ho a w0 w F r' s'
    have nope : ∀ c a w, ¬ QQ w0 F n (fun x e' H' => x = .normal ∧ OA P n ops fuel (listed.setIfInBounds j true) e' H' K) (.panic c) a w := fun c a w ⟨_, _, _, ⟨hx, _⟩, _⟩ => by cases hx
    have nopeo : ¬ LetsOut (QQ w0 F n (fun x e' H' => x = .normal ∧ OA P n ops fuel (listed.setIfInBounds j true) e' H' K)) := fun ⟨_, _, _, _, _, ⟨hx, _⟩, _⟩ => by cases hx
    cases res with
    | ok nx w1 =>
      cases nx <;> simp only [Oper.upon] <;> intro h1 <;>
        first
          | exact h1.elim
          | exact step _ _ h1
          | exact Calls.mono h1 (fun e w'' he => by
              cases e with
              | returned v => exact step _ _ he
              | panicked c => exact absurd he (nope _ _ _)
              | outgrown => exact absurd he nopeo)
          | exact Rows.mono h1 (fun _ _ he => step _ _ he)
    | halt hh w1 =>
      cases hh <;> simp only [Oper.upon] <;> intro h1 <;> first | exact h1.elim | exact absurd h1 (nope _ _ _)
  · cases hx
theorem ex_any {id : Nat} {l : List Oper} [m : Mixed P] {k : Nat} (hk : l.length = k) (h : OA P n l.toArray k (Array.replicate k false) e H (fun e' H' => Φ .normal e' H')) : Ex P n (.region id l.toArray true) e H Φ := fun a w0 w F r s => by
  subst hk
  have := h a w0 _ F r s.drawn
  have h2 : wpAny P .any l.toArray (QQ w0 F n (fun x e H => x = .normal ∧ Φ .normal e H)) l.toArray.size (Array.replicate l.toArray.size false) a { w with drawn := w.drawn + 1 } := by simpa using this
  refine wp_mono (wp_region_any m.mixed h2) ?_
  rintro x a' w' ⟨e', H', r', ⟨rfl, k⟩, s'⟩
  exact ⟨e', H', r', k, s'⟩
end
end Go.Proofs.YtffhbdgoikkngaaS
