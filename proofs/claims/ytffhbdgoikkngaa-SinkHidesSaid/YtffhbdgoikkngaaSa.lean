/- A small logic of owned memory for walks: resources (blocks, each written or only read), a star, what holds in a world, and judgements over code, operations and calls. No seat's program is named here. -/
import Derived.WalkKit
import Derived.Deep.LoopGhost
namespace Go.Proofs.YtffhbdgoikkngaaS
open Go.RowKit
set_option linter.unusedVariables false
set_option linter.unusedSimpArgs false

/-! ### Resources -/
abbrev Cell := Option (Bool × Obj)
abbrev Res := Nat → Cell
def HP : Type := Res → Prop

def J : Cell → Cell → Cell → Prop
  | none, y, z => z = y
  | some x, none, z => z = some x
  | some x, some y, z => x.1 = false ∧ y = x ∧ z = some x

theorem J_comm : ∀ x y z, J x y z → J y x z
  | none, none, _, h => h
  | none, some _, _, h => h
  | some _, none, _, h => h
  | some x, some y, z, h => by obtain ⟨h1, h2, h3⟩ := h; subst h2; exact ⟨h1, rfl, h3⟩
def jf : Cell → Cell → Cell
  | none, y => y
  | some x, _ => some x
theorem J_fun : ∀ x y z, J x y z → z = jf x y
  | none, _, _, h => h
  | some _, none, _, h => h
  | some _, some _, _, h => h.2.2
theorem J_assoc : ∀ x y z a r, J x y a → J a z r → J y z (jf y z) ∧ J x (jf y z) r
  | none, y, z, a, r, h1, h2 => by
    have e : a = y := h1
    subst e
    have := J_fun _ _ _ h2
    exact ⟨this ▸ h2, by rw [← this]; rfl⟩
  | some x, none, z, a, r, h1, h2 => by
    have e : a = some x := h1
    subst e
    exact ⟨rfl, h2⟩
  | some x, some y, none, a, r, h1, h2 => by
    obtain ⟨e1, e2, e3⟩ := h1
    subst e2; subst e3
    exact ⟨rfl, e1, rfl, h2⟩
  | some x, some y, some z, a, r, h1, h2 => by
    obtain ⟨e1, e2, e3⟩ := h1
    subst e2; subst e3
    obtain ⟨f1, f2, f3⟩ := h2
    exact ⟨⟨e1, f2, rfl⟩, e1, rfl, f3⟩

def sep (A B : HP) : HP := fun h => ∃ h1 h2, (∀ b, J (h1 b) (h2 b) (h b)) ∧ A h1 ∧ B h2
instance : Mul HP := ⟨sep⟩
def emp : HP := fun h => ∀ b, h b = none
instance : One HP := ⟨emp⟩

theorem mul_def (A B : HP) : A * B = sep A B := rfl
theorem HP.ext {A B : HP} (h : ∀ r, A r ↔ B r) : A = B := funext fun r => propext (h r)
theorem sep_comm (A B : HP) : A * B = B * A := by
  refine HP.ext fun r => ?_
  constructor
  · rintro ⟨h1, h2, hj, a, b⟩; exact ⟨h2, h1, fun c => J_comm _ _ _ (hj c), b, a⟩
  · rintro ⟨h1, h2, hj, a, b⟩; exact ⟨h2, h1, fun c => J_comm _ _ _ (hj c), b, a⟩
theorem sep_assoc' {A B C : HP} {r : Res} (h : ((A * B) * C) r) : (A * (B * C)) r := by
  obtain ⟨h12, h3, hj, ⟨h1, h2, hk, a, b⟩, c⟩ := h
  exact ⟨h1, fun x => jf (h2 x) (h3 x), fun x => (J_assoc _ _ _ _ _ (hk x) (hj x)).2, a, h2, h3, fun x => (J_assoc _ _ _ _ _ (hk x) (hj x)).1, b, c⟩
theorem sep_assoc (A B C : HP) : A * B * C = A * (B * C) := by
  refine HP.ext fun r => ⟨sep_assoc', fun h => ?_⟩
  rw [sep_comm A (B * C), sep_comm B C] at h
  have h1 := sep_assoc' h
  rw [sep_comm C (B * A), sep_comm B A] at h1
  exact h1
theorem sep_one (A : HP) : A * 1 = A := by
  refine HP.ext fun r => ?_
  constructor
  · rintro ⟨h1, h2, hj, a, b⟩
    have e : h1 = r := funext fun x => by
      have h := hj x
      rw [b x] at h
      cases h3 : h1 x with
      | none => rw [h3] at h; exact h.symm
      | some v => rw [h3] at h; exact h.symm
    exact e ▸ a
  · intro a
    refine ⟨r, fun _ => none, fun x => ?_, a, fun _ => rfl⟩
    cases h : r x with
    | none => exact rfl
    | some v => exact rfl
theorem one_sep (A : HP) : 1 * A = A := by rw [sep_comm, sep_one]
theorem sep_left_comm (A B C : HP) : A * (B * C) = B * (A * C) := by rw [← sep_assoc, sep_comm A B, sep_assoc]
instance : Std.Commutative (α := HP) (· * ·) := ⟨sep_comm⟩
instance : Std.Associative (α := HP) (· * ·) := ⟨sep_assoc⟩

/-- A block, known whole: its cells as a list. -/
def blk (p : Bool) (b : Nat) (o : Obj) : HP := fun h => h = fun c => if c = b then some (p, o) else none
def cl (p : Bool) (b : Nat) (l : List Value) (t : TypeId) (fr : Nat × Nat) : HP := blk p b (.cells l.toArray t fr)
/-- A plain fact. -/
def pu (p : Prop) : HP := fun h => p ∧ ∀ b, h b = none
def exh {X : Type} (A : X → HP) : HP := fun h => ∃ x, A x h

/-! ### In a world -/
structure Sat (w0 w : World) (A : HP) : Prop where
  os : w.os = w0.os
  tape : w.tape = w0.tape
  output : w.output = w0.output
  size : w0.heap.size ≤ w.heap.size
  mem : ∃ h, A h ∧ ∀ b p o, h b = some (p, o) → w.heap[b]? = some o

theorem Sat.drop {w0 w : World} {A B : HP} (h : Sat w0 w (A * B)) : Sat w0 w B := by
  obtain ⟨r, ⟨h1, h2, hj, _, hb⟩, hm⟩ := h.mem
  refine ⟨h.os, h.tape, h.output, h.size, h2, hb, fun b p o e => hm b p o ?_⟩
  have hx := hj b
  rw [e] at hx
  cases h3 : h1 b with
  | none => rw [h3] at hx; exact hx
  | some v => rw [h3] at hx; rw [hx.2.2, hx.2.1]
theorem Sat.dropR {w0 w : World} {A B : HP} (h : Sat w0 w (A * B)) : Sat w0 w A := by rw [sep_comm] at h; exact h.drop
theorem Sat.drew {w0 w : World} {A : HP} (h : Sat w0 w A) : Sat w0 w.drew A := ⟨h.os, h.tape, h.output, h.size, h.mem⟩
theorem Sat.drawn {w0 w : World} {A : HP} (h : Sat w0 w A) : Sat w0 { w with drawn := w.drawn + 1 } A := ⟨h.os, h.tape, h.output, h.size, h.mem⟩
theorem Sat.blk {w0 w : World} {A : HP} {p : Bool} {b : Nat} {o : Obj} (h : Sat w0 w (blk p b o * A)) : w.heap[b]? = some o := by
  obtain ⟨r, hr, hm⟩ := h.dropR.mem
  exact hm b p o (by rw [hr]; simp)
theorem Sat.alloc {w0 w : World} {A : HP} (h : Sat w0 w A) (o : Obj) : Sat w0 { w with heap := w.heap.push o } (Go.Proofs.YtffhbdgoikkngaaS.blk true w.heap.size o * A) := by
  obtain ⟨r, hr, hm⟩ := h.mem
  have hn : ∀ b, w.heap.size ≤ b → r b = none := fun b hb => by
    cases e : r b with
    | none => rfl
    | some v => have := hm b v.1 v.2 e; simp [Array.getElem?_eq_none hb] at this
  refine ⟨h.os, h.tape, h.output, by have := h.size; simp; omega, fun c => if c = w.heap.size then some (true, o) else r c, ⟨_, r, fun c => ?_, rfl, hr⟩, fun b p o' e => ?_⟩
  · by_cases hc : c = w.heap.size
    · subst hc; simp only [if_true]; rw [hn _ (Nat.le_refl _)]; exact rfl
    · simp only [if_neg hc]; exact rfl
  · by_cases hc : b = w.heap.size
    · subst hc; simp at e; obtain ⟨_, rfl⟩ := e; simp
    · simp only [if_neg hc] at e
      have := hm b p o' e
      have hlt : b < w.heap.size := (Array.getElem?_eq_some_iff.1 this).1
      simp only [Array.getElem?_push]; rw [if_neg hc]; exact this
theorem Sat.setBlock {w0 w w' : World} {A : HP} {b : Nat} {o o' : Obj} (h : Sat w0 w (Go.Proofs.YtffhbdgoikkngaaS.blk true b o * A)) (h1 : w'.os = w.os) (h2 : w'.tape = w.tape) (h3 : w'.output = w.output) (h4 : w'.heap.size = w.heap.size)
    (h5 : w'.heap[b]? = some o') (h6 : ∀ c, c ≠ b → w'.heap[c]? = w.heap[c]?) : Sat w0 w' (Go.Proofs.YtffhbdgoikkngaaS.blk true b o' * A) := by
  obtain ⟨r, ⟨r1, r2, hj, hb, ha⟩, hm⟩ := h.mem
  have hr1 : r1 = fun c => if c = b then some (true, o) else none := hb
  refine ⟨h1.trans h.os, h2.trans h.tape, h3.trans h.output, by rw [h4]; exact h.size, fun c => if c = b then some (true, o') else r c, ⟨fun c => if c = b then some (true, o') else none, r2, fun c => ?_, rfl, ha⟩, fun c p u e => ?_⟩
  · have hx := hj c
    rw [hr1] at hx
    by_cases hc : c = b
    · subst hc
      simp only [if_true] at hx ⊢
      cases h7 : r2 c with
      | none => exact rfl
      | some v => rw [h7] at hx; exact absurd hx.1 (by simp)
    · simp only [if_neg hc] at hx ⊢; exact hx
  · by_cases hc : c = b
    · subst hc; simp at e; obtain ⟨_, rfl⟩ := e; exact h5
    · simp only [if_neg hc] at e; rw [h6 c hc]; exact hm c p u e
theorem Sat.pure {w0 w : World} {A : HP} {p : Prop} (h : Sat w0 w (pu p * A)) : p := by
  obtain ⟨r, ⟨r1, r2, _, hp, _⟩, _⟩ := h.mem
  exact hp.1
theorem Sat.ex {w0 w : World} {X : Type} {A : X → HP} {B : HP} (h : Sat w0 w (exh A * B)) : ∃ x, Sat w0 w (A x * B) := by
  obtain ⟨r, ⟨r1, r2, hj, ⟨x, hx⟩, hb⟩, hm⟩ := h.mem
  exact ⟨x, h.os, h.tape, h.output, h.size, r, ⟨r1, r2, hj, hx, hb⟩, hm⟩
theorem Sat.ofPure {w0 w : World} {A : HP} {p : Prop} (hp : p) (h : Sat w0 w A) : Sat w0 w (pu p * A) := by
  obtain ⟨r, hr, hm⟩ := h.mem
  exact ⟨h.os, h.tape, h.output, h.size, r, ⟨fun _ => none, r, fun _ => rfl, ⟨hp, fun _ => rfl⟩, hr⟩, hm⟩
theorem Sat.ofEx {w0 w : World} {X : Type} {A : X → HP} {B : HP} (x : X) (h : Sat w0 w (A x * B)) : Sat w0 w (exh A * B) := by
  obtain ⟨r, ⟨r1, r2, hj, hx, hb⟩, hm⟩ := h.mem
  exact ⟨h.os, h.tape, h.output, h.size, r, ⟨r1, r2, hj, ⟨x, hx⟩, hb⟩, hm⟩

/-- What a world that bears one bears the other, whatever stands beside. -/
def Ent (A B : HP) : Prop := ∀ w0 w F, Sat w0 w (A * F) → Sat w0 w (B * F)
theorem Ent.refl (A : HP) : Ent A A := fun _ _ _ h => h
theorem Ent.trans {A B C : HP} (h : Ent A B) (k : Ent B C) : Ent A C := fun _ _ _ s => k _ _ _ (h _ _ _ s)
theorem Ent.frame {A B : HP} (h : Ent A B) (C : HP) : Ent (A * C) (B * C) := fun w0 w F s => by
  rw [sep_assoc] at s ⊢; exact h _ _ _ s
theorem Ent.frameL {A B : HP} (h : Ent A B) (C : HP) : Ent (C * A) (C * B) := by rw [sep_comm C A, sep_comm C B]; exact h.frame C
theorem Ent.drop (A B : HP) : Ent (A * B) B := fun w0 w F s => by rw [sep_assoc] at s; exact s.drop
theorem Ent.dropR (A B : HP) : Ent (A * B) A := by rw [sep_comm]; exact Ent.drop _ _
theorem Ent.toOne (A : HP) : Ent A 1 := fun w0 w F s => by rw [one_sep]; exact s.drop
theorem Ent.pure {A : HP} {p : Prop} (h : p) : Ent A (pu p * A) := fun w0 w F s => by rw [sep_assoc]; exact s.ofPure h
theorem Ent.ofEq {A B : HP} (h : A = B) : Ent A B := h ▸ Ent.refl A
theorem Ent.ex {X : Type} {A : X → HP} (x : X) : Ent (A x) (exh A) := fun _ _ _ s => s.ofEx x

/-! ### Finding things in a product -/
class HasB (H : HP) (p : outParam Bool) (b : Nat) (o : outParam Obj) (R : outParam HP) : Prop where eq : H = blk p b o * R
instance (priority := 900) hasB_cl1 (p b l t fr) : HasB (cl p b l t fr) p b (.cells l.toArray t fr) 1 := ⟨(sep_one _).symm⟩
instance (priority := 1000) hasB_cl (p b l t fr R) : HasB (cl p b l t fr * R) p b (.cells l.toArray t fr) R := ⟨rfl⟩
instance (priority := 500) hasB_tail (A H p b o R) [h : HasB H p b o R] : HasB (A * H) p b o (A * R) := ⟨by rw [h.eq, sep_left_comm]⟩
/-- The first of 'H', found, and the rest. -/
class Take (A H : HP) (R : outParam HP) : Prop where eq : H = A * R
instance (priority := 1000) take_one (H) : Take 1 H H := ⟨(one_sep H).symm⟩
instance (priority := 800) take_self (A) : Take A A 1 := ⟨(sep_one A).symm⟩
instance (priority := 900) take_head (A R) : Take A (A * R) R := ⟨rfl⟩
instance (priority := 500) take_tail (A B H R) [h : Take A H R] : Take A (B * H) (B * R) := ⟨by rw [h.eq, sep_left_comm]⟩
instance (priority := 1100) take_mul (A B H R S) [h : Take A H R] [k : Take B R S] : Take (A * B) H S := ⟨by rw [h.eq, k.eq, sep_assoc]⟩

/-! ### Frames of temporaries -/
def Env : Type := Nat → Value
def ev (e : Env) : Operand → Value
  | .tmp t => e t
  | .const v => v
  | .global g => .pointer (some ⟨g, 0, none⟩)
  | .func f => .func (.func f) #[] #[]
def put (e : Env) (d : Nat) (v : Value) : Env := fun t => bif Nat.beq t d then v else e t
def putO (e : Env) : Option Nat → Value → Env
  | none, _ => e
  | some d, v => put e d v
structure Rep (n : Nat) (e : Env) (a : Act) : Prop where
  size : a.tmps.size = n
  defers : a.defers = []
  val : ∀ t, a.tmps.getD t undef = e t
theorem Rep.eval {n : Nat} {e : Env} {a : Act} (h : Rep n e a) : a.eval = ev e := funext fun x => by cases x <;> first | exact h.val _ | rfl
theorem Rep.put {n d : Nat} {e : Env} {a : Act} (h : Rep n e a) (hd : d < n) (v : Value) : Rep n (Go.Proofs.YtffhbdgoikkngaaS.put e d v) (a.put (some d) v) := by
  refine ⟨by simp [Act.put, h.size], h.defers, fun t => ?_⟩
  simp only [Act.put, Go.Proofs.YtffhbdgoikkngaaS.put]
  by_cases ht : t = d
  · subst ht
    have hs := h.size
    simp [hs, hd]
  · have hb : Nat.beq t d = false := by
      cases h : Nat.beq t d with
      | false => rfl
      | true => exact absurd (Nat.eq_of_beq_eq_true h) ht
    have := h.val t
    rw [hb]
    simp only [Array.getD_eq_getD_getElem?, cond_false] at this ⊢
    rw [Array.getElem?_setIfInBounds_ne (Ne.symm ht)]
    exact this
def dOk (n : Nat) : Option Nat → Prop
  | none => True
  | some d => d < n
theorem Rep.putO {n : Nat} {d : Option Nat} {e : Env} {a : Act} (h : Rep n e a) (hd : dOk n d) (v : Value) : Rep n (Go.Proofs.YtffhbdgoikkngaaS.putO e d v) (a.put d v) := by
  cases d with
  | none => exact h
  | some d => exact h.put hd v

end Go.Proofs.YtffhbdgoikkngaaS
