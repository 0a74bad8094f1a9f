/- The small logic: a region whose order is drawn, walked step by step beside memory that none of its operations changes: what only looks at that may be taken first. -/
import Derived.Test.YtffhbdgoikkngaaSy
import Derived.Test.YtffhbdgoikkngaaSw
namespace Go.Proofs.YtffhbdgoikkngaaS
open Go.RowKit
set_option linter.unusedVariables false
variable {P : Program} {n : Nat} {ops : Array Oper} {rest : List Oper} {e : Env} {H A : HP} {Φ : Post} {d : Nat} {ty : TypeId} {ps : String} {af : Array Edge}
/-- One step, beside A. -/
def OStep (P : Program) (ops : Array Oper) (A : HP) (i : Nat) (a : Act) (H : HP) (R : Act → HP → Prop) : Prop :=
  ∀ w0 w F Q, Sat w0 w (A * (H * F)) → wpOp P ops Q i (fun a' w' => ∃ H', Sat w0 w' (A * (H' * F)) ∧ R a' H') a w
def OSa (P : Program) (ops : Array Oper) (A : HP) (K : Act → HP → Prop) : Nat → Array Bool → Act → HP → Prop
  | 0, L, a, H => Region.ready .any ops L = [] ∧ K a H
  | k + 1, L, a, H => Region.ready .any ops L ≠ [] ∧ ∀ i, i ∈ Region.ready .any ops L → OStep P ops A i a H (OSa P ops A K k (L.setIfInBounds i true))
/-- It yields v, and looks at A alone. -/
def LookR (P : Program) (A : HP) (v : Value) (w0 : World) (F : HP) : Result Next → Prop
  | .ok (.value u) w' => u = v ∧ Sat w0 w' (A * F)
  | .ok .skip w' => undef = v ∧ Sat w0 w' (A * F)
  | .ok (.row row args) w' => Rows P row args w' (fun u w'' => u = v ∧ Sat w0 w'' (A * F))
  | .ok (.enter f args) w' => Calls P f args w' (fun e' w'' => e' = .returned v ∧ Sat w0 w'' (A * F))
  | _ => False
def Looks (P : Program) (ops : Array Oper) (A : HP) (o : Oper) (v : Value) (a : Act) : Prop :=
  (Region.wanted o (yielded ops a.tmps) = true ∧ ∀ w0 w F, Sat w0 w (A * F) → LookR P A v w0 F ((execOp a.eval o).run P w)) ∨
  (Region.wanted o (yielded ops a.tmps) = false ∧ ∀ w0 w F, Sat w0 w (A * F) → undef = v)
theorem Looks.of_same {o : Oper} {v : Value} {a a' : Act} (hy : Looks P ops A o v a) (he : execOp a'.eval o = execOp a.eval o)
    (hw : Region.wanted o (yielded ops a'.tmps) = Region.wanted o (yielded ops a.tmps)) : Looks P ops A o v a' := by
  unfold Looks at *
  rw [he, hw]
  exact hy
theorem Looks.wpOp {Q : Exit → Act → World → Prop} {i : Nat} {o : Oper} {v : Value} {a : Act} (hi : ops[i]? = some o) (hy : Looks P ops A o v a)
    {K : Act → World → Prop} {w0 w : World} {F : HP} (s : Sat w0 w (A * F)) (h : ∀ w', Sat w0 w' (A * F) → K (a.put o.dst v) w') : wpOp P ops Q i K a w := by
  unfold Go.wpOp
  simp only [hi]
  rcases hy with ⟨hw, hv⟩ | ⟨hw, hv⟩
  · have := hv w0 w F s
    simp only [hw, if_true, Oper.wp]
    left
    revert this
    generalize (execOp a.eval o).run P w = r
    intro this
    cases r with
    | ok nx w1 =>
      cases nx <;> simp only [LookR] at this <;> simp only [Oper.upon]
      case value u => obtain ⟨rfl, s'⟩ := this; exact h _ s'
      case skip => obtain ⟨rfl, s'⟩ := this; exact h _ s'
      case enter f args => exact Calls.mono this fun e w'' ⟨he, s'⟩ => by subst he; exact h _ s'
      case row row args => exact Rows.mono this fun u w'' ⟨he, s'⟩ => by subst he; exact h _ s'
    | halt hh w1 => simp only [LookR] at this
  · obtain rfl := hv _ _ _ s; simp only [hw, Bool.false_eq_true, if_false]; exact h _ s
theorem wpOp_putL {Q : Exit → Act → World → Prop} {j : Nat} {oi oj : Oper} {v : Value} (hj : ops[j]? = some oj) (hap : oi.apart ops oj = true)
    (hsi : ∀ cs b, oi.op ≠ .select cs b) (hsj : ∀ cs b, oj.op ≠ .select cs b)
    {K : Act → World → Prop} {a : Act} {w : World}
    (hy : Looks P ops A oi v a) (h : wpOp P ops (fun _ _ _ => False) j K (a.put oi.dst v) w) :
    wpOp P ops Q j (fun a' w' => Looks P ops A oi v a' ∧ K (a'.put oi.dst v) w') a w := by
  obtain ⟨h1, h2, h3⟩ := Oper.apart_spec hap
  have keep : ∀ (a : Act), Looks P ops A oi v a → ∀ u, Looks P ops A oi v (a.put oj.dst u) := fun a hy u =>
    hy.of_same (execOp_put oi hsi a oj.dst u h3) (wanted_put oi a oj.dst u h3)
  have keepD : ∀ d, Looks P ops A oi v { a with defers := d :: a.defers } := fun d => hy.of_same rfl rfl
  have nol : ¬ LetsOut (fun (_ : Exit) (_ : Act) (_ : World) => False) := fun ⟨_, _, h⟩ => h
  unfold wpOp at *
  simp only [hj] at *
  rw [wanted_put oj a oi.dst v h1] at h
  split
  · rename_i hw
    simp only [hw, if_true] at h
    rcases h with h | ⟨hasks, hlets⟩
    case inr => exact absurd hlets nol
    refine .inl ?_
    unfold Oper.wp at *
    rw [execOp_put oj hsj a oi.dst v h1] at h
    generalize (execOp a.eval oj).run P w = r at *
    cases r with
    | ok n w' =>
      cases n <;> simp only [Oper.upon] at h ⊢
      case value u => exact ⟨keep a hy u, by rw [← Act.put_comm a v u h2]; exact h⟩
      case skip => exact ⟨keep a hy _, by rw [← Act.put_comm a v undef h2]; exact h⟩
      case defer d =>
        refine ⟨keep _ (keepD d) _, ?_⟩
        rw [← Act.put_comm _ v undef h2, ← Act.put_defers]
        exact h
      case enter f args =>
        refine Calls.mono h fun e w'' he => ?_
        cases e with
        | returned u => exact ⟨keep a hy u, by rw [← Act.put_comm a v u h2]; exact he⟩
        | panicked c => exact he.elim
        | outgrown => exact absurd he nol
      case row row args => exact Rows.mono h fun u w'' he => ⟨keep a hy u, by rw [← Act.put_comm a v u h2]; exact he⟩
    | halt x w' =>
      cases x <;> simp only [Oper.upon] at h
  · rename_i hw
    simp only [hw] at h
    exact ⟨keep a hy _, by rw [← Act.put_comm a v undef h2]; exact h⟩
theorem osa_first {i : Nat} {oi : Oper} {v : Value} {K : Act → HP → Prop} (hi : ops[i]? = some oi) (hsel : ∀ (j : Nat) (o : Oper) cs b, ops[j]? = some o → o.op ≠ .select cs b) :
    ∀ (fuel : Nat) (listed : Array Bool) (a : Act) (H : HP),
      (∀ j oj, ops[j]? = some oj → j ≠ i → listed.getD j true = false → (∀ e ∈ oj.after, Region.binds .any e = true → e.on ≠ i) → oi.apart ops oj = true) →
      i ∈ Region.ready .any ops listed → Looks P ops A oi v a →
      OSa P ops A K fuel (listed.setIfInBounds i true) (a.put oi.dst v) H → OSa P ops A K (fuel + 1) listed a H := by
  intro fuel
  induction fuel with
  | zero =>
    intro listed a G _ hr hy H
    refine ⟨fun h => (by rw [h] at hr; cases hr), fun j hj => ?_⟩
    by_cases hji : j = i
    · subst hji; exact fun w0 w F Q s => hy.wpOp hi s fun w' s' => ⟨G, s', H⟩
    · have := ready_mono hj hji
      rw [H.1] at this
      cases this
  | succ fuel ih =>
    intro listed a G hfree hr hy H
    refine ⟨fun h => (by rw [h] at hr; cases hr), fun j hj => ?_⟩
    by_cases hji : j = i
    · subst hji; exact fun w0 w F Q s => hy.wpOp hi s fun w' s' => ⟨G, s', H⟩
    · have h1 := H.2 j (ready_mono hj hji)
      obtain ⟨hjun, oj, hoj, hall⟩ := mem_ready.1 hj
      have hnot : ∀ e ∈ oj.after, Region.binds .any e = true → e.on ≠ i := fun e he hb heq => by
        have h1 := hall e he hb
        have h0 := (mem_ready.1 hr).1
        rw [heq] at h1
        rcases Nat.lt_or_ge i listed.size with h' | h'
        · simp [h'] at h0 h1; rw [h0] at h1; cases h1
        · simp [Array.getElem?_eq_none h'] at h1
      intro w0 w F Q s
      have h2 := wpOp_putL (Q := Q) hoj (hfree j oj hoj hji hjun hnot) (fun cs b => hsel i oi cs b hi) (fun cs b => hsel j oj cs b hoj) hy (h1 w0 w F _ s)
      have hfree' : ∀ k ok, ops[k]? = some ok → k ≠ i → (listed.setIfInBounds j true).getD k true = false →
          (∀ e ∈ ok.after, Region.binds .any e = true → e.on ≠ i) → oi.apart ops ok = true := fun k ok hk hki hun hno => by
        refine hfree k ok hk hki ?_ hno
        by_cases hjk : j = k
        · subst hjk; exact hjun
        · rw [getD_set_ne true hjk] at hun; exact hun
      refine wpOp_mono (fun a' w' h3 => ?_) h2
      obtain ⟨h4, H', s', h5⟩ := h3
      refine ⟨H', s', ih (listed.setIfInBounds j true) a' H' hfree' (ready_mono hr (Ne.symm hji)) h4 ?_⟩
      rw [Array.setIfInBounds_comm _ _ hji]
      exact h5
theorem osa_any {Q : Exit → Act → World → Prop} {K : Act → HP → Prop} {w0 : World} {F : HP} (hK : ∀ a H w, K a H → Sat w0 w (A * (H * F)) → Q .normal a w) :
    ∀ (k : Nat) (L : Array Bool) (a : Act) (H : HP) (w : World), OSa P ops A K k L a H → Sat w0 w (A * (H * F)) → wpAny P .any ops Q k L a w := by
  intro k
  induction k with
  | zero => exact fun L a H w h s => ⟨h.1, hK _ _ _ h.2 s⟩
  | succ k ih =>
    intro L a H w h s
    exact ⟨fun h0 => absurd h0 h.1, fun i hi => wpOp_mono (fun a' w' ⟨H', s', h'⟩ => ih _ _ _ _ h' s') (h.2 i hi w0 w F Q s)⟩
/-- The region's rest, with memory H, of which A stays as it is. -/
def OS (P : Program) (n : Nat) (ops : Array Oper) (A : HP) (k : Nat) (L : Array Bool) (e : Env) (H : HP) (K : Env → HP → Prop) : Prop :=
  ∀ a, Rep n e a → ∃ R, H = A * R ∧ OSa P ops A (fun a R => ∃ e, Rep n e a ∧ K e (A * R)) k L a R
section
variable {K : Env → HP → Prop} {fuel : Nat} {listed : Array Bool}
theorem oa_os (A : HP) {k : Nat} (h : OS P n ops A k listed e H K) : OA P n ops k listed e H K := fun a w0 w F r s => by
  obtain ⟨R, hR, h1⟩ := h a r
  subst hR
  rw [sep_assoc] at s
  refine osa_any (K := fun a R => ∃ e, Rep n e a ∧ K e (A * R)) (fun a' R' w' hk s' => ?_) k listed a R w h1 s
  obtain ⟨e', r', k'⟩ := hk
  refine ⟨e', _, r', ⟨rfl, k'⟩, ?_⟩
  rw [sep_assoc]; exact s'
theorem os_done {R' : HP} [t : Take A H R'] (hr : Region.ready .any ops listed = []) (h : K e H) : OS P n ops A 0 listed e H K := fun a r => ⟨_, t.eq, hr, e, r, t.eq ▸ h⟩
theorem os_donek {R' : HP} {ts : List Nat} [t : Take A H R'] (hr : Region.ready .any ops listed = []) (h : ∀ g, keepN ts e g (fun e' => Φ .normal e' H)) : OS P n ops A 0 listed e H (fun e' H' => keepP ts Φ .normal e' H') := os_done hr ⟨rfl, h⟩
theorem looks_of {o : Oper} {v : Value} (hdst : o.dst = some d) (hd : d < n) {a : Act} (r : Rep n e a) (h : Ops P n ops [o] e A (fun x e' H' => x = .normal ∧ e' = put e d v ∧ Ent H' A)) : Looks P ops A o v a := by
  have key : ∀ u w0 w' F, (∃ e' H', Rep n e' (a.put o.dst u) ∧ (Exit.normal = .normal ∧ e' = put e d v ∧ Ent H' A) ∧ Sat w0 w' (H' * F)) → u = v ∧ Sat w0 w' (A * F) := by
    rintro u w0 w' F ⟨e', H', r', ⟨_, rfl, hE⟩, s'⟩
    refine ⟨?_, hE _ _ _ s'⟩
    have h1 := r'.val d
    rw [hdst] at h1
    have h2 : (a.put (some d) u).tmps.getD d undef = u := by
      have : d < a.tmps.size := by rw [r.size]; exact hd
      simp [Act.put, this]
    rw [h2] at h1
    rw [h1]
    unfold put; simp
  by_cases hw : Region.wanted o (yielded ops a.tmps) = true
  · refine .inl ⟨hw, fun w0 w F s => ?_⟩
    have h1 := h a w0 w F r s
    unfold wpList at h1
    rw [if_pos hw] at h1
    rcases h1 with h1 | ⟨_, a', w', e', H', _, ⟨hx, _⟩, _⟩
    · unfold Oper.wp at h1
      revert h1
      generalize (execOp a.eval o).run P w = res
      intro h1
      have nope : ∀ c a w, ¬ QQ w0 F n (fun x e' H' => x = .normal ∧ e' = put e d v ∧ Ent H' A) (.panic c) a w := fun c a w ⟨_, _, _, ⟨hx, _⟩, _⟩ => by cases hx
      have nopeo : ¬ LetsOut (QQ w0 F n (fun x e' H' => x = .normal ∧ e' = put e d v ∧ Ent H' A)) := fun ⟨_, _, _, _, _, ⟨hx, _⟩, _⟩ => by cases hx
      cases res with
      | ok nx w1 =>
        cases nx <;> simp only [Oper.upon] at h1 <;> simp only [LookR]
        case value u => exact key u _ _ _ h1
        case skip => exact key undef _ _ _ h1
        case row row args => exact Rows.mono h1 fun u w'' he => key u _ _ _ he
        case enter f args =>
          refine Calls.mono h1 fun e1 w'' he => ?_
          cases e1 with
          | returned u => have := key u _ _ _ he; exact ⟨by rw [this.1], this.2⟩
          | panicked c => exact absurd he (nope _ _ _)
          | outgrown => exact absurd he nopeo
        case defer dd =>
          obtain ⟨e', H', r', _⟩ := h1
          have := r'.defers
          rw [hdst] at this
          simp [Act.put] at this
      | halt hh w1 => cases hh <;> simp only [Oper.upon] at h1 <;> first | exact h1.elim | exact absurd h1 (nope _ _ _)
    · cases hx
  · have hwf : Region.wanted o (yielded ops a.tmps) = false := by simpa using hw
    refine .inr ⟨hwf, fun w0 w F s => ?_⟩
    have h1 := h a w0 w F r s
    unfold wpList at h1
    rw [if_neg hw] at h1
    exact (key undef _ _ _ h1).1
/-- What only looks, at the part that stays, may be taken first. -/
theorem os_pre (i : Nat) {oi : Oper} {v : Value} (hi : ops[i]? = some oi) (hns : Region.noSelect ops = true) (hfree : Region.free .any ops listed i = true) (hready : (Region.ready .any ops listed).contains i = true)
    (hdst : oi.dst = some d) (hd : d < n) (h : Ops P n ops [oi] e A (fun x e' H' => x = .normal ∧ e' = put e d v ∧ Ent H' A)) (c : OS P n ops A fuel (listed.setIfInBounds i true) (put e d v) H K) : OS P n ops A (fuel + 1) listed e H K := fun a r => by
  obtain ⟨R, hR, h1⟩ := c (a.put (some d) v) (r.put hd v)
  exact ⟨R, hR, osa_first hi (Region.noSelect_spec hns) fuel listed a R (Region.free_spec hi hfree) (by simpa using hready) (looks_of hdst hd r h) (by rw [hdst]; exact h1)⟩
theorem os_look {v : Value} (hv : Ent H A) : Ops P n ops [] (put e d v) H (fun x e' H' => x = .normal ∧ e' = put e d v ∧ Ent H' A) := ops_nil ⟨rfl, rfl, hv⟩
theorem ostep {R' : HP} [t : Take A H R'] (j : Nat) {o : Oper} {a : Act} (r : Rep n e a) (hi : ops[j]? = some o)
    (h : Ops P n ops [o] e H (fun x e' H' => x = .normal ∧ OS P n ops A fuel (listed.setIfInBounds j true) e' H' K)) : OStep P ops A j a R' (OSa P ops A (fun a R => ∃ e, Rep n e a ∧ K e (A * R)) fuel (listed.setIfInBounds j true)) := fun w0 w F Q s => by
  have h1 := h a w0 w F r (by rw [t.eq, sep_assoc]; exact s)
  have step : ∀ a w, wpList P ops (QQ w0 F n (fun x e' H' => x = .normal ∧ OS P n ops A fuel (listed.setIfInBounds j true) e' H' K)) [] a w →
      ∃ H', Sat w0 w (A * (H' * F)) ∧ OSa P ops A (fun a R => ∃ e, Rep n e a ∧ K e (A * R)) fuel (listed.setIfInBounds j true) a H' := fun a w ⟨e', H', r', ⟨_, ho⟩, s'⟩ => by
    obtain ⟨R, hR, h2⟩ := ho a r'
    subst hR
    exact ⟨R, by rw [sep_assoc] at s'; exact s', h2⟩
  unfold wpList at h1
  unfold wpOp
  simp only [hi]
  by_cases hw : Region.wanted o (yielded ops a.tmps) = true
  · rw [if_pos hw] at h1 ⊢
    rcases h1 with h1 | ⟨_, a', w', e', H', _, ⟨hx, _⟩, _⟩
    · left
      unfold Oper.wp at h1 ⊢
      revert h1
      generalize (execOp a.eval o).run P w = res
      have nope : ∀ c a w, ¬ QQ w0 F n (fun x e' H' => x = .normal ∧ OS P n ops A fuel (listed.setIfInBounds j true) e' H' K) (.panic c) a w := fun c a w ⟨_, _, _, ⟨hx, _⟩, _⟩ => by cases hx
      have nopeo : ¬ LetsOut (QQ w0 F n (fun x e' H' => x = .normal ∧ OS P n ops A fuel (listed.setIfInBounds j true) e' H' K)) := fun ⟨_, _, _, _, _, ⟨hx, _⟩, _⟩ => by cases hx
      cases res with
      | ok nx w1 =>
        cases nx <;> simp only [Oper.upon] <;> intro h1 <;>
          first
            | exact h1.elim
            | exact step _ _ h1
            | exact Calls.mono h1 (fun e w'' he => by
                cases e with
                | returned v => exact step _ _ he
                | panicked c => exact absurd he (nope _ _ _)
                | outgrown => exact absurd he nopeo)
            | exact Rows.mono h1 (fun _ _ he => step _ _ he)
      | halt hh w1 =>
        cases hh <;> simp only [Oper.upon] <;> intro h1 <;> first | exact h1.elim | exact absurd h1 (nope _ _ _)
    · cases hx
  · rw [if_neg hw] at h1 ⊢
    exact step _ _ h1
theorem os_one {R' : HP} [t : Take A H R'] (i : Nat) {o : Oper} (hr : Region.ready .any ops listed = [i]) (hi : ops[i]? = some o)
    (h : Ops P n ops [o] e H (fun x e' H' => x = .normal ∧ OS P n ops A fuel (listed.setIfInBounds i true) e' H' K)) : OS P n ops A (fuel + 1) listed e H K := fun a r =>
  ⟨R', t.eq, by rw [hr]; simp, fun j hj => by
    rw [hr] at hj
    obtain rfl : j = i := by simpa using hj
    exact ostep j r hi h⟩
theorem os_two {R' : HP} [t : Take A H R'] (i j : Nat) {o q : Oper} (hr : Region.ready .any ops listed = [i, j]) (hi : ops[i]? = some o) (hj : ops[j]? = some q)
    (h : Ops P n ops [o] e H (fun x e' H' => x = .normal ∧ OS P n ops A fuel (listed.setIfInBounds i true) e' H' K))
    (k : Ops P n ops [q] e H (fun x e' H' => x = .normal ∧ OS P n ops A fuel (listed.setIfInBounds j true) e' H' K)) : OS P n ops A (fuel + 1) listed e H K := fun a r =>
  ⟨R', t.eq, by rw [hr]; simp, fun m hm => by
    rw [hr] at hm
    have hm2 : m = i ∨ m = j := by simpa using hm
    rcases hm2 with rfl | rfl
    · exact ostep m r hi h
    · exact ostep m r hj k⟩
theorem os_three {R' : HP} [t : Take A H R'] (i j l : Nat) {o q p : Oper} (hr : Region.ready .any ops listed = [i, j, l]) (hi : ops[i]? = some o) (hj : ops[j]? = some q) (hl : ops[l]? = some p)
    (h : Ops P n ops [o] e H (fun x e' H' => x = .normal ∧ OS P n ops A fuel (listed.setIfInBounds i true) e' H' K))
    (k : Ops P n ops [q] e H (fun x e' H' => x = .normal ∧ OS P n ops A fuel (listed.setIfInBounds j true) e' H' K))
    (g : Ops P n ops [p] e H (fun x e' H' => x = .normal ∧ OS P n ops A fuel (listed.setIfInBounds l true) e' H' K)) : OS P n ops A (fuel + 1) listed e H K := fun a r =>
  ⟨R', t.eq, by rw [hr]; simp, fun m hm => by
    rw [hr] at hm
    have hm2 : m = i ∨ m = j ∨ m = l := by simpa using hm
    rcases hm2 with rfl | rfl | rfl
    · exact ostep m r hi h
    · exact ostep m r hj k
    · exact ostep m r hl g⟩
theorem os_sel {o : Oper} {d : Option Nat} (h : o.dst = d) (k : Ops P n ops [o] e H Φ) : Ops P n ops [o] e H Φ := k
theorem os_nil (h : OS P n ops A fuel listed e H K) : Ops P n ops [] e H (fun x e' H' => x = .normal ∧ OS P n ops A fuel listed e' H' K) := ops_nil ⟨rfl, h⟩
/-- Nothing that is there is changed. -/
theorem os_all {k : Nat} (h : OS P n ops H k listed e H K) : OA P n ops k listed e H K := oa_os H h
/-- All but one block stays. -/
theorem os_but (t : Nat) {b o : Nat} {p : Bool} {l : List Value} {ty : TypeId} {fr : Nat × Nat} {R : HP} {k : Nat} (ht : e t = .pointer (some ⟨b, o, none⟩)) [hb : HasL H b p l ty fr R] (h : OS P n ops R k listed e (cl p b l ty fr * R) K) : OA P n ops k listed e H K := by
  rw [hb.eq]; exact oa_os R h
theorem os_but2 (t t' : Nat) {b o b' o' : Nat} {p p' : Bool} {l l' : List Value} {ty ty' : TypeId} {fr fr' : Nat × Nat} {R R' : HP} {k : Nat} (ht : e t = .pointer (some ⟨b, o, none⟩)) (ht' : e t' = .pointer (some ⟨b', o', none⟩)) [hb : HasL H b p l ty fr R] [hb' : HasL R b' p' l' ty' fr' R']
    (h : OS P n ops R' k listed e (cl p b l ty fr * (cl p' b' l' ty' fr' * R')) K) : OA P n ops k listed e H K := by
  rw [hb.eq, hb'.eq]; exact oa_os R' h
/-- All but an owned row stays. -/
theorem os_butO (t : Nat) {el sz m cap : Nat} {a : Option Addr} {l : List Value} {R : HP} {k : Nat} (ht : e t = .slice a m cap) [hb : HasO H el sz a m cap l R] (h : OS P n ops R k listed e (ow el sz a m cap l * R) K) : OA P n ops k listed e H K :=
  (oa_os R h).ent hb.ent
/-- All but a block and an owned row stays. -/
theorem os_butBO (t : Nat) (el sz : Nat) (a : Option Addr) (m cap : Nat) {b o : Nat} {p : Bool} {l l' : List Value} {ty : TypeId} {fr : Nat × Nat} {R R' : HP} {k : Nat} (ht : e t = .pointer (some ⟨b, o, none⟩)) [hb : HasL H b p l ty fr R] [ho : HasO R el sz a m cap l' R']
    (h : OS P n ops R' k listed e (cl p b l ty fr * (ow el sz a m cap l' * R')) K) : OA P n ops k listed e H K := by
  rw [hb.eq]
  refine OA.ent (H := cl p b l ty fr * (ow el sz a m cap l' * R')) (oa_os R' h) (ho.ent.frameL _)
end
end Go.Proofs.YtffhbdgoikkngaaS
