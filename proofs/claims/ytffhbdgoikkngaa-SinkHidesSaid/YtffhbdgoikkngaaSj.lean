/- The small logic: guards within quiet regions whose order is drawn. -/
import Derived.Test.YtffhbdgoikkngaaSi
namespace Go.Proofs.YtffhbdgoikkngaaS
open Go.RowKit
set_option linter.unusedVariables false
variable {P : Program} {n : Nat} {ops : Array Oper} {rest : List Oper} {e : Env} {H : HP} {d : Nat} {ty : TypeId} {ps : String} {af : Array Edge} {K : Env → Prop}
theorem wanted_of {l : List Oper} {o : Oper} {j t : Nat} {bw b : Bool} {a : Act} (hg : o.guard = some (j, bw)) (hj : (l[j]?).bind (·.dst) = some t) (hn : t < n) (r : Rep n e a) (hb : e t = .bool b) : Region.wanted o (yielded l.toArray a.tmps) = (b == bw) := by
  unfold Region.wanted yielded
  have hs := r.size
  have hv := r.val t
  rw [hb] at hv
  have hlt : t < a.tmps.size := by omega
  have hv2 : a.tmps[t]? = some (.bool b) := by
    simp [hlt] at hv ⊢; exact hv
  rw [hg]
  simp only [List.getElem?_toArray, hj, Option.bind_some, hv2]
  cases b <;> cases bw <;> rfl
theorem qg_yes {l : List Oper} {dd : Option Nat} {op : Op} {j t : Nat} {bw : Bool} (hj : (l[j]?).bind (·.dst) = some t) (hn : t < n) (hb : e t = .bool bw) (h : QO P n l.toArray (⟨dd, op, ty, ps, af, none⟩ :: rest) e H K) :
    QO P n l.toArray (⟨dd, op, ty, ps, af, some (j, bw)⟩ :: rest) e H K := fun a w0 F r => by
  have hy := wanted_of (o := ⟨dd, op, ty, ps, af, some (j, bw)⟩) rfl hj hn r hb
  have h1 := h a w0 F r
  unfold wpQuiet at h1 ⊢
  rw [if_pos (by simp [Region.wanted])] at h1
  rw [if_pos (by rw [hy]; simp)]
  exact h1
theorem qg_no {l : List Oper} {op : Op} {j t : Nat} {bw : Bool} (hj : (l[j]?).bind (·.dst) = some t) (hn : t < n) (hb : e t = .bool (!bw)) (hd : d < n) (h : QO P n l.toArray rest (put e d undef) H K) :
    QO P n l.toArray (⟨some d, op, ty, ps, af, some (j, bw)⟩ :: rest) e H K := fun a w0 F r => by
  have hy := wanted_of (o := ⟨some d, op, ty, ps, af, some (j, bw)⟩) rfl hj hn r hb
  unfold wpQuiet
  rw [if_neg (by rw [hy]; cases bw <;> simp)]
  exact h _ w0 F (r.put hd undef)
theorem qg_undef {l : List Oper} {op : Op} {j t : Nat} {bw : Bool} (hj : (l[j]?).bind (·.dst) = some t) (hb : e t = undef) (hd : d < n) (h : QO P n l.toArray rest (put e d undef) H K) :
    QO P n l.toArray (⟨some d, op, ty, ps, af, some (j, bw)⟩ :: rest) e H K := fun a w0 F r => by
  have hy : Region.wanted ⟨some d, op, ty, ps, af, some (j, bw)⟩ (yielded l.toArray a.tmps) = false := by
    unfold Region.wanted yielded
    have hv := r.val t
    rw [hb] at hv
    simp only [List.getElem?_toArray, hj, Option.bind_some]
    cases h2 : a.tmps[t]? with
    | none => rfl
    | some v =>
      have : v = undef := by simpa [h2] using hv
      subst this; rfl
  unfold wpQuiet
  rw [if_neg (by rw [hy]; simp)]
  exact h _ w0 F (r.put hd undef)
theorem qg_yesT {l : List Oper} {dd : Option Nat} {op : Op} {j t : Nat} {b : Bool} (hj : (l[j]?).bind (·.dst) = some t) (hn : t < n) (hb : e t = .bool b) (hh : b = true) (h : QO P n l.toArray (⟨dd, op, ty, ps, af, none⟩ :: rest) (put e t (.bool true)) H K) :
    QO P n l.toArray (⟨dd, op, ty, ps, af, some (j, true)⟩ :: rest) e H K := by subst hh; rw [put_same hb] at h; exact qg_yes hj hn hb h
theorem qg_yesF {l : List Oper} {dd : Option Nat} {op : Op} {j t : Nat} {b : Bool} (hj : (l[j]?).bind (·.dst) = some t) (hn : t < n) (hb : e t = .bool b) (hh : b = false) (h : QO P n l.toArray (⟨dd, op, ty, ps, af, none⟩ :: rest) (put e t (.bool false)) H K) :
    QO P n l.toArray (⟨dd, op, ty, ps, af, some (j, false)⟩ :: rest) e H K := by subst hh; rw [put_same hb] at h; exact qg_yes hj hn hb h
theorem qg_noT {l : List Oper} {op : Op} {j t : Nat} {b : Bool} (hj : (l[j]?).bind (·.dst) = some t) (hn : t < n) (hb : e t = .bool b) (hh : b = true) (hd : d < n) (h : QO P n l.toArray rest (put (put e t (.bool true)) d undef) H K) :
    QO P n l.toArray (⟨some d, op, ty, ps, af, some (j, false)⟩ :: rest) e H K := by subst hh; rw [put_same hb] at h; exact qg_no hj hn hb hd h
theorem qg_noF {l : List Oper} {op : Op} {j t : Nat} {b : Bool} (hj : (l[j]?).bind (·.dst) = some t) (hn : t < n) (hb : e t = .bool b) (hh : b = false) (hd : d < n) (h : QO P n l.toArray rest (put (put e t (.bool false)) d undef) H K) :
    QO P n l.toArray (⟨some d, op, ty, ps, af, some (j, true)⟩ :: rest) e H K := by subst hh; rw [put_same hb] at h; exact qg_no hj hn hb hd h
theorem qg_split {l : List Oper} {op : Op} {j t : Nat} {bw b : Bool} (hj : (l[j]?).bind (·.dst) = some t) (hn : t < n) (hb : e t = .bool b) (hd : d < n)
    (h1 : b = bw → QO P n l.toArray (⟨some d, op, ty, ps, af, none⟩ :: rest) (put e t (.bool bw)) H K) (h2 : b = !bw → QO P n l.toArray rest (put (put e t (.bool !bw)) d undef) H K) :
    QO P n l.toArray (⟨some d, op, ty, ps, af, some (j, bw)⟩ :: rest) e H K := by
  by_cases h : b = bw
  · subst h
    have := h1 rfl
    rw [put_same hb] at this
    exact qg_yes hj hn hb this
  · have h' : b = !bw := by cases b <;> cases bw <;> simp_all
    subst h'
    have := h2 rfl
    rw [put_same hb] at this
    exact qg_no hj hn hb hd this
theorem q_pick_t {c x y : Operand} {v : Value} (hd : d < n) (hc : ev e c = .bool true) (hx : ev e x = v) (k : QO P n ops rest (put e d v) H K) : QO P n ops (⟨some d, .pick c x y, ty, ps, af, none⟩ :: rest) e H K :=
  q_rfl hd (fun w => by simp only [execOp, hc, hx]; rfl) k
theorem q_pick_f {c x y : Operand} {v : Value} (hd : d < n) (hc : ev e c = .bool false) (hx : ev e y = v) (k : QO P n ops rest (put e d v) H K) : QO P n ops (⟨some d, .pick c x y, ty, ps, af, none⟩ :: rest) e H K :=
  q_rfl hd (fun w => by simp only [execOp, hc, hx]; rfl) k
/-- A loop whose round may leave memory of its own behind. -/
theorem ex_loopE {c : Code} {Φ : Post} (I : Nat → Env → HP → Prop) {m : Nat} {H0 : HP} (h0 : I m e H0) (hE : Ent H H0)
    (round : ∀ m e H, I m e H → Ex P n c e H (andThen (fun e' H' => ∃ m', m' < m ∧ ∃ H2, Ent H' H2 ∧ I m' e' H2) Φ)) : Ex P n (.loop c) e H Φ := by
  refine Ex.ent (ex_loop (fun m e H' => ∃ H2, Ent H' H2 ∧ I m e H2) ⟨H0, Ent.refl _, h0⟩ ?_) hE
  rintro m e H1 ⟨H2, hE2, hi⟩
  exact Ex.ent (round m e H2 hi) hE2
end Go.Proofs.YtffhbdgoikkngaaS
