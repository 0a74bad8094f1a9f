/- The judgements: code, operations, calls; their rules for control flow, loops, drawn regions and calls. No seat's program is named here. -/
import Derived.Test.YtffhbdgoikkngaaSa
namespace Go.Proofs.YtffhbdgoikkngaaS
open Go.RowKit
set_option linter.unusedVariables false
set_option linter.unusedSimpArgs false

variable {P : Program}

abbrev Post := Exit → Env → HP → Prop
def QQ (w0 : World) (F : HP) (n : Nat) (Φ : Post) : Exit → Act → World → Prop := fun x a w => ∃ e H, Rep n e a ∧ Φ x e H ∧ Sat w0 w (H * F)
def Ex (P : Program) (n : Nat) (c : Code) (e : Env) (H : HP) (Φ : Post) : Prop :=
  ∀ a w0 w F, Rep n e a → Sat w0 w (H * F) → c.wp P (QQ w0 F n Φ) a w
def Ops (P : Program) (n : Nat) (ops : Array Oper) (l : List Oper) (e : Env) (H : HP) (Φ : Post) : Prop :=
  ∀ a w0 w F, Rep n e a → Sat w0 w (H * F) → wpList P ops (QQ w0 F n Φ) l a w
/-- A piece of the model's monad: it ends well, with this value and this memory. -/
def T {α : Type} (P : Program) (s : Sem α) (H : HP) (Ψ : α → HP → Prop) : Prop :=
  ∀ w0 w F, Sat w0 w (H * F) → ∃ v w' H', s.run P w = .ok v w' ∧ Ψ v H' ∧ Sat w0 w' (H' * F)
/-- It only looks. -/
def V {α : Type} (P : Program) (s : Sem α) (H : HP) (v : α) : Prop := ∀ w0 w F, Sat w0 w (H * F) → s.run P w = .ok v w
/-- A call's contract: for some x of X it hands back 'val x', 'pr x' holds and the memory is 'res x'. -/
def Spec (P : Program) (f : FuncId) (args : List Value) (H : HP) {X : Type} (val : X → Value) (pr : X → Prop) (res : X → HP) : Prop :=
  ∀ w0 w F, Sat w0 w (H * F) → Calls P f args.toArray w fun e w' => ∃ x, e = .returned (val x) ∧ pr x ∧ Sat w0 w' (res x * F)

def andThen (K : Env → HP → Prop) (Φ : Post) : Post
  | .normal, e, H => K e H
  | x, e, H => Φ x e H
def inBlk (id : Nat) (Φ : Post) : Post
  | .exit i, e, H => if i = id then Φ .normal e H else Φ (.exit i) e H
  | x, e, H => Φ x e H

section
variable {n : Nat} {e : Env} {H : HP} {Φ : Post} {c c1 c2 : Code}

theorem Ex.ent {H' : HP} (h : Ex P n c e H' Φ) (k : Ent H H') : Ex P n c e H Φ := fun a w0 w F r s => h a w0 w F r (k _ _ _ s)
theorem Ops.ent {H' : HP} {ops : Array Oper} {l : List Oper} (h : Ops P n ops l e H' Φ) (k : Ent H H') : Ops P n ops l e H Φ := fun a w0 w F r s => h a w0 w F r (k _ _ _ s)
theorem Ex.mono {Ψ : Post} (h : Ex P n c e H Ψ) (k : ∀ x e H, Ψ x e H → Φ x e H) : Ex P n c e H Φ :=
  fun a w0 w F r s => wp_mono (h a w0 w F r s) fun _ _ _ ⟨e', H', r', q, s'⟩ => ⟨e', H', r', k _ _ _ q, s'⟩
theorem Ex.pu {p : Prop} (h : p → Ex P n c e H Φ) : Ex P n c e (pu p * H) Φ := fun a w0 w F r s => by
  rw [sep_assoc] at s; exact h s.pure a w0 w F r s.drop
theorem Ex.exh {X : Type} {A : X → HP} (h : ∀ x, Ex P n c e (A x * H) Φ) : Ex P n c e (exh A * H) Φ := fun a w0 w F r s => by
  rw [sep_assoc] at s
  obtain ⟨x, s⟩ := s.ex
  exact h x a w0 w F r (by rw [sep_assoc]; exact s)
theorem Ops.pu {p : Prop} {ops : Array Oper} {l : List Oper} (h : p → Ops P n ops l e H Φ) : Ops P n ops l e (pu p * H) Φ := fun a w0 w F r s => by
  rw [sep_assoc] at s; exact h s.pure a w0 w F r s.drop
theorem Ops.exh {X : Type} {A : X → HP} {ops : Array Oper} {l : List Oper} (h : ∀ x, Ops P n ops l e (A x * H) Φ) : Ops P n ops l e (exh A * H) Φ := fun a w0 w F r s => by
  rw [sep_assoc] at s
  obtain ⟨x, s⟩ := s.ex
  exact h x a w0 w F r (by rw [sep_assoc]; exact s)

theorem ex_skip (h : Φ .normal e H) : Ex P n .skip e H Φ := fun _ _ _ _ r s => wp_skip ⟨e, H, r, h, s⟩
theorem ex_ret (h : Φ .ret e H) : Ex P n .ret e H Φ := fun _ _ _ _ r s => wp_ret ⟨e, H, r, h, s⟩
theorem ex_exit {id : Nat} (h : Φ (.exit id) e H) : Ex P n (.exit id) e H Φ := fun _ _ _ _ r s => wp_exit ⟨e, H, r, h, s⟩
theorem ex_seq (h : Ex P n c1 e H (andThen (fun e H => Ex P n c2 e H Φ) Φ)) : Ex P n (.seq c1 c2) e H Φ := fun a w0 w F r s =>
  wp_seq (wp_mono (h a w0 w F r s) fun x a' w' ⟨e', H', r', q, s'⟩ => by
    cases x with
    | normal => exact q a' w0 w' F r' s'
    | _ => exact ⟨e', H', r', q, s'⟩)
theorem ex_cond {o : Operand} {t : Bool} (ho : ev e o = .bool t) (h1 : t = true → Ex P n c1 e H Φ) (h2 : t = false → Ex P n c2 e H Φ) : Ex P n (.cond o c1 c2) e H Φ :=
  fun a w0 w F r s => wp_cond_split (t := t) (by rw [r.eval]; exact ho) (fun ht => h1 ht a w0 w F r s) (fun ht => h2 ht a w0 w F r s)
theorem ex_cond_t {o : Operand} (ho : ev e o = .bool true) (h1 : Ex P n c1 e H Φ) : Ex P n (.cond o c1 c2) e H Φ := ex_cond ho (fun _ => h1) (fun h => by cases h)
theorem ex_cond_f {o : Operand} (ho : ev e o = .bool false) (h2 : Ex P n c2 e H Φ) : Ex P n (.cond o c1 c2) e H Φ := ex_cond ho (fun h => by cases h) (fun _ => h2)
theorem ex_block {id : Nat} (h : Ex P n c e H (inBlk id Φ)) : Ex P n (.block id c) e H Φ := fun a w0 w F r s =>
  wp_block (wp_mono (h a w0 w F r s) fun x a' w' ⟨e', H', r', q, s'⟩ => by
    cases x with
    | exit i =>
      simp only [inBlk] at q
      simp only [Exit.inBlock]
      split
      · rename_i hi; rw [if_pos hi] at q; exact ⟨e', H', r', q, s'⟩
      · rename_i hi; rw [if_neg hi] at q; exact ⟨e', H', r', q, s'⟩
    | _ => exact ⟨e', H', r', q, s'⟩)
theorem ex_region {id : Nat} {l : List Oper} (h : Ops P n l.toArray l e H Φ) : Ex P n (.region id l.toArray false) e H Φ :=
  fun a w0 w F r s => wp_region_lit (h a w0 w F r s)
/-- A loop: a relation with a number that each round lowers. -/
theorem ex_loop (I : Nat → Env → HP → Prop) {m : Nat} (h0 : I m e H)
    (round : ∀ m e H, I m e H → Ex P n c e H (andThen (fun e' H' => ∃ m', m' < m ∧ I m' e' H') Φ)) : Ex P n (.loop c) e H Φ := fun a w0 w F r s =>
  wp_loop_ghost (fun m a w => ∃ e H, I m e H ∧ Rep n e a ∧ Sat w0 w (H * F)) m ⟨e, H, h0, r, s⟩ fun m a w ⟨e', H', hi, r', s'⟩ =>
    wp_mono (round m e' H' hi a w0 w F r' s') fun x a' w' ⟨e2, H2, r2, q, s2⟩ => by
      cases x with
      | normal => obtain ⟨m', hm, hi'⟩ := q; exact ⟨m', hm, e2, H2, hi', r2, s2⟩
      | _ => exact ⟨e2, H2, r2, q, s2⟩

theorem ops_nil {ops : Array Oper} (h : Φ .normal e H) : Ops P n ops [] e H Φ := fun _ _ _ _ r s => wpList_nil ⟨e, H, r, h, s⟩

/-- What comes behind an operation. -/
def nx (P : Program) (n : Nat) (ops : Array Oper) (rest : List Oper) (e : Env) (d : Option Nat) (Φ : Post) : Next → HP → Prop
  | .value v, H => Ops P n ops rest (putO e d v) H Φ
  | .skip, H => Ops P n ops rest (putO e d undef) H Φ
  | _, _ => False

theorem ops_step {ops : Array Oper} {o : Oper} {rest : List Oper} (hg : o.guard = none) (hd : dOk n o.dst) (h : T P (execOp (ev e) o) H (nx P n ops rest e o.dst Φ)) : Ops P n ops (o :: rest) e H Φ := fun a w0 w F r s =>
  wpList_plain hg fun K hK => by
    obtain ⟨v, w', H', hr, hv, s'⟩ := h w0 w F s
    unfold Oper.wp
    rw [r.eval, hr]
    cases v with
    | value v => exact hK _ _ (hv _ w0 w' F (r.putO hd v) s')
    | skip => exact hK _ _ (hv _ w0 w' F (r.putO hd undef) s')
    | _ => exact hv.elim

/-- A guarded operation that is not wanted. -/
theorem ops_unwanted {l : List Oper} {o : Oper} {rest : List Oper} {j : Nat} {bw b : Bool} {d t : Nat} (hg : o.guard = some (j, bw)) (hj : (l[j]?).bind (·.dst) = some t) (hn : t < n) (hb : e t = .bool b) (hne : (b == bw) = false)
    (ho : o.dst = some d) (hd : d < n) (h : Ops P n l.toArray rest (put e d undef) H Φ) : Ops P n l.toArray (o :: rest) e H Φ := fun a w0 w F r s => by
  have hy : Region.wanted o (yielded l.toArray a.tmps) = false := by
    unfold Region.wanted yielded
    have hs := r.size
    have hv := r.val t
    rw [hb] at hv
    have hlt : t < a.tmps.size := by omega
    have hv2 : a.tmps[t]? = some (.bool b) := by
      simp [hlt] at hv ⊢; exact hv
    rw [hg]
    simp only [List.getElem?_toArray, hj, Option.bind_some, hv2]
    cases b <;> cases bw <;> simp_all
  unfold wpList
  rw [if_neg (by rw [hy]; simp)]
  rw [ho]
  exact h _ w0 w F (r.put hd undef) s
theorem ops_wanted {l : List Oper} {o : Oper} {rest : List Oper} {j : Nat} {bw : Bool} {t : Nat} (hg : o.guard = some (j, bw)) (hj : (l[j]?).bind (·.dst) = some t) (hn : t < n) (hb : e t = .bool bw)
    (h : Ops P n l.toArray ({ o with guard := none } :: rest) e H Φ) : Ops P n l.toArray (o :: rest) e H Φ := fun a w0 w F r s => by
  have hy : Region.wanted o (yielded l.toArray a.tmps) = true := by
    unfold Region.wanted yielded
    have hs := r.size
    have hv := r.val t
    rw [hb] at hv
    have hlt : t < a.tmps.size := by omega
    have hv2 : a.tmps[t]? = some (.bool bw) := by
      simp [hlt] at hv ⊢; exact hv
    rw [hg]
    simp only [List.getElem?_toArray, hj, Option.bind_some, hv2]
    cases bw <;> simp
  have h1 := h a w0 w F r s
  unfold wpList at h1 ⊢
  rw [if_pos (by simp [Region.wanted])] at h1
  rw [if_pos hy]
  exact h1

/-! ### Calls -/
theorem Spec.mono {f : FuncId} {args : List Value} {X Y : Type} {val : X → Value} {pr : X → Prop} {res : X → HP} {val' : Y → Value} {pr' : Y → Prop} {res' : Y → HP}
    (h : Spec P f args H val pr res) (k : ∀ x, pr x → ∃ y, val x = val' y ∧ pr' y ∧ Ent (res x) (res' y)) : Spec P f args H val' pr' res' := fun w0 w F s =>
  (h w0 w F s).mono fun e w' ⟨x, he, hp, s'⟩ => by
    obtain ⟨y, hv, hp', hen⟩ := k x hp
    exact ⟨y, by rw [he, hv], hp', hen _ _ _ s'⟩
theorem Spec.ent {f : FuncId} {args : List Value} {H' : HP} {X : Type} {val : X → Value} {pr : X → Prop} {res : X → HP} (h : Spec P f args H' val pr res) (k : Ent H H') : Spec P f args H val pr res :=
  fun w0 w F s => h w0 w F (k _ _ _ s)
theorem Spec.frame {f : FuncId} {args : List Value} {X : Type} {val : X → Value} {pr : X → Prop} {res : X → HP} (h : Spec P f args H val pr res) (G : HP) : Spec P f args (H * G) val pr (fun x => res x * G) := fun w0 w F s => by
  rw [sep_assoc] at s
  exact (h w0 w _ s).mono fun e w' ⟨x, he, hp, s'⟩ => ⟨x, he, hp, by rw [sep_assoc]; exact s'⟩
theorem Spec.pu {f : FuncId} {args : List Value} {X : Type} {val : X → Value} {pr : X → Prop} {res : X → HP} {p : Prop} (h : p → Spec P f args H val pr res) : Spec P f args (Go.Proofs.YtffhbdgoikkngaaS.pu p * H) val pr res := fun w0 w F s => by
  rw [sep_assoc] at s; exact h s.pure w0 w F s.drop
theorem Spec.exh {f : FuncId} {args : List Value} {X Y : Type} {val : X → Value} {pr : X → Prop} {res : X → HP} {A : Y → HP} (h : ∀ y, Spec P f args (A y * H) val pr res) : Spec P f args (Go.Proofs.YtffhbdgoikkngaaS.exh A * H) val pr res := fun w0 w F s => by
  rw [sep_assoc] at s
  obtain ⟨y, s⟩ := s.ex
  exact h y w0 w F (by rw [sep_assoc]; exact s)

/-- A function of the program that a call enters. -/
class Goes (P : Program) (f : FuncId) : Prop where
  goes : ∃ fn, P.funcs[f]? = some fn ∧ (fn.name == "runtime.NumGoroutine") = false ∧ fn.body.isNone = false

theorem run_call {f : FuncId} [g : Goes P f] (args : Array Value) (w : World) : (callFunc f args).run P w = .ok (.enter f args) w := by
  obtain ⟨fn, h1, h2, h3⟩ := g.goes
  have h4 : ¬ fn.name = "runtime.NumGoroutine" := by simpa using h2
  have h5 : ¬ fn.body = none := by intro h; rw [h] at h3; simp at h3
  simp [callFunc, program, Sem.run, h1, h4, h5]

theorem ops_call {ops : Array Oper} {rest : List Oper} {d : Option Nat} {f : FuncId} {l : List Operand} {ats : Array TypeId} {ty : TypeId} {ps : String} {af : Array Edge} {vs : List Value}
    {X : Type} {val : X → Value} {pr : X → Prop} {res : X → HP} {Hp Hf : HP} [g : Goes P f] (hd : dOk n d) {cf : Operand} (hcf : ev e cf = .func (.func f) #[] #[]) (hv : l.map (ev e) = vs) (hs : Spec P f vs Hp val pr res) (ht : H = Hp * Hf)
    (k : ∀ x, pr x → Ops P n ops rest (putO e d (val x)) (res x * Hf) Φ) :
    Ops P n ops ({ dst := d, op := .call { callee := .value cf, args := l.toArray, argTypes := ats }, type := ty, pos := ps, after := af, guard := none } :: rest) e H Φ := fun a w0 w F r s =>
  wpList_plain rfl fun K hK => by
    unfold Oper.wp
    have hx : (execOp a.eval { dst := d, op := .call { callee := .value cf, args := l.toArray, argTypes := ats }, type := ty, pos := ps, after := af, guard := none }).run P w = .ok (.enter f vs.toArray) w := by
      rw [r.eval]
      simp only [execOp, resolve, hcf, Deferred.ofValue, invoke, List.map_toArray, hv]
      simp [run_call]
    rw [hx]
    simp only [Oper.upon]
    rw [ht, sep_assoc] at s
    refine (hs w0 w _ s).mono ?_
    rintro e' w' ⟨x, rfl, hp, s'⟩
    refine hK _ _ (k x hp _ w0 w' F (r.putO hd _) ?_)
    rw [sep_assoc]; exact s'

/-- A function's own text: the frame at its beginning. -/
def envOf (vs : List Value) : Env := fun t => vs.getD t undef
/-- What is handed back, out of the frame. -/
def resl (fn : Func) (e : Env) : Sem Value := do
  let vs ← fn.results.mapM fun
    | .tmp t => pure (e t)
    | .cell a t => do loadVar t (← asAddr (e a))
  pure (if h : vs.size = 1 then vs[0] else .tuple vs)
theorem resl_eq {fn : Func} {a : Act} (r : Rep n e a) : results fn a.tmps = resl fn e := by
  unfold results resl
  congr 1
  congr 1
  funext x
  cases x with
  | tmp t => simp only [r.val t]
  | cell b t => simp only [r.val b]

theorem spec_of {f : FuncId} {fn : Func} {c : Code} {vs : List Value} {X : Type} {val : X → Value} {pr : X → Prop} {res : X → HP} (hf : P.funcs[f]? = some fn) (hb : fn.body = some c) (hn : fn.ntmps = n) (hl : Nat.ble vs.length n = true)
    (h : Ex P n c (envOf vs) H (fun x e H' => (x = .normal ∨ x = .ret) ∧ ∃ y, V P (resl fn e) H' (val y) ∧ pr y ∧ Ent H' (res y))) : Spec P f vs H val pr res := fun w0 w F s => by
  subst hn
  have hl := Nat.le_of_ble_eq_true hl
  refine calls_of_wp hf hb ?_
  refine wp_mono (h _ w0 w F ⟨by simp; omega, rfl, fun t => ?_⟩ s) ?_
  · simp only [envOf, Array.getD_eq_getD_getElem?, List.getD_eq_getElem?_getD]
    by_cases ht : t < vs.length
    · rw [Array.getElem?_append_left (by simpa using ht)]; simp
    · rw [Array.getElem?_append_right (by simpa using ht)]
      have e1 : vs[t]? = none := by simp; omega
      rw [e1]
      by_cases ht2 : t - vs.length < fn.ntmps - vs.length
      · simp [ht2]
      · simp [ht2]
  · rintro x a' w' ⟨e', H', r', ⟨hx, y, hv, hp, hen⟩, s'⟩
    have hr := hv w0 w' F s'
    rw [← resl_eq r'] at hr
    have : bodyPost P fn (fun e w' => ∃ x, e = .returned (val x) ∧ pr x ∧ Sat w0 w' (res x * F)) .ret a' w' := ⟨r'.defers, _, hr, y, rfl, hp, hen _ _ _ s'⟩
    rcases hx with rfl | rfl
    · exact this
    · exact this
end

/-! ### The model's monad -/
section
variable {α β : Type} {H : HP}
theorem T.ofV {s : Sem α} {v : α} {Ψ : α → HP → Prop} (h : V P s H v) (k : Ψ v H) : T P s H Ψ := fun w0 w F q => ⟨v, w, H, h w0 w F q, k, q⟩
theorem T.ofRun {s : Sem α} {v : α} {Ψ : α → HP → Prop} (h : ∀ w, s.run P w = .ok v w) (k : Ψ v H) : T P s H Ψ := T.ofV (fun _ w _ _ => h w) k
theorem T.pure {v : α} {Ψ : α → HP → Prop} (k : Ψ v H) : T P (Pure.pure v) H Ψ := T.ofRun (fun _ => rfl) k
theorem T.bind {s : Sem α} {f : α → Sem β} {Ψ : β → HP → Prop} (h : T P s H (fun v H' => T P (f v) H' Ψ)) : T P (s >>= f) H Ψ := fun w0 w F q => by
  obtain ⟨v, w', H', hr, hk, q'⟩ := h w0 w F q
  obtain ⟨u, w2, H2, hr2, hk2, q2⟩ := hk w0 w' F q'
  exact ⟨u, w2, H2, by rw [Sem.run_bind, hr]; simpa using hr2, hk2, q2⟩
theorem V.bind {s : Sem α} {f : α → Sem β} {v : α} {u : β} (h : V P s H v) (k : V P (f v) H u) : V P (s >>= f) H u := fun w0 w F q => by
  rw [Sem.run_bind, h w0 w F q]; simpa using k w0 w F q
theorem V.pure (v : α) : V P (Pure.pure v) H v := fun _ _ _ _ => rfl
theorem V.ofRun {s : Sem α} {v : α} (h : ∀ w, s.run P w = .ok v w) : V P s H v := fun _ w _ _ => h w
theorem T.mono {s : Sem α} {Ψ Ψ' : α → HP → Prop} (h : T P s H Ψ) (k : ∀ v H, Ψ v H → Ψ' v H) : T P s H Ψ' := fun w0 w F q => by
  obtain ⟨v, w', H', hr, hk, q'⟩ := h w0 w F q
  exact ⟨v, w', H', hr, k _ _ hk, q'⟩
end
end Go.Proofs.YtffhbdgoikkngaaS
