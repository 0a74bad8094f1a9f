/- Contracts of the functions that the statement reaches: the walk of the program by the small logic, part 1: Sa, Sb, Sc, Sd, Se, Sf, Sg, Sh, Si, Sj, Sk, Sl, Sm, Sn, So, Sp. No condition beyond what each theorem states. -/
import Derived.WalkKit
import Derived.Deep.LoopGhost
import Derived.Deep.Quiet
import Derived.KernelRfl
import Derived.Below
import Derived.SizedLaws
import Derived.ChangeSlices
import Derived.OpenShut
import Derived.Laws.StructEq
import Derived.Laws.Cover3
import Derived.DataReads
import Derived.Lib.SmallJoins
import Derived.Laws.Pointers
import Derived.Test.YtcelailgedndnaaGreatProg
import Derived.Shelf.SlMaps.Clone
import Derived.Shelf.SlSortCmp.WholeK
import Derived.Shelf.Small.Bits
import Derived.Ground.SlmcProg
import Derived.Ground.SlsfProg
import Derived.Ground.SlgcProg
import Derived.Ground.NamesProg
import Derived.MapKept
import Derived.Carry
import Derived.RangeFuncNested
import Derived.RangeFuncBound
import Derived.RangeFuncCalls
import Derived.RangeFuncLeaves
import Derived.Shelf.Abstract
import Derived.Shelf.RegionOpen
import Derived.OwnWalkIn
import Derived.TacticsInMore
import Derived.LoopNIn
import Derived.LoopIn
import Derived.Maps.OwnIn
import Derived.Maps.AppendAt
import Derived.Sort.MapsRangeIn
import Derived.RangeFuncSeq
import Derived.RangeFuncStops
namespace Go.Proofs.YtcelailgedndnaaGreatS
open Go.RowKit
set_option linter.unusedVariables false
set_option linter.unusedSimpArgs false
/-! ### Resources -/
abbrev Cell := Option (Bool × Obj)
abbrev Res := Nat → Cell
def HP : Type := Res → Prop
def J : Cell → Cell → Cell → Prop
  | none, y, z => z = y
  | some x, none, z => z = some x
  | some x, some y, z => x.1 = false ∧ y = x ∧ z = some x
theorem J_comm : ∀ x y z, J x y z → J y x z
  | none, none, _, h => h
  | none, some _, _, h => h
  | some _, none, _, h => h
  | some x, some y, z, h => by obtain ⟨h1, h2, h3⟩ := h; subst h2; exact ⟨h1, rfl, h3⟩
def jf : Cell → Cell → Cell
  | none, y => y
  | some x, _ => some x
theorem J_fun : ∀ x y z, J x y z → z = jf x y
  | none, _, _, h => h
  | some _, none, _, h => h
  | some _, some _, _, h => h.2.2
theorem J_assoc : ∀ x y z a r, J x y a → J a z r → J y z (jf y z) ∧ J x (jf y z) r
  | none, y, z, a, r, h1, h2 => by
    have e : a = y := h1
    subst e
    have := J_fun _ _ _ h2
    exact ⟨this ▸ h2, by rw [← this]; rfl⟩
  | some x, none, z, a, r, h1, h2 => by
    have e : a = some x := h1
    subst e
    exact ⟨rfl, h2⟩
  | some x, some y, none, a, r, h1, h2 => by
    obtain ⟨e1, e2, e3⟩ := h1
    subst e2; subst e3
    exact ⟨rfl, e1, rfl, h2⟩
  | some x, some y, some z, a, r, h1, h2 => by
    obtain ⟨e1, e2, e3⟩ := h1
    subst e2; subst e3
    obtain ⟨f1, f2, f3⟩ := h2
    exact ⟨⟨e1, f2, rfl⟩, e1, rfl, f3⟩
def sep (A B : HP) : HP := fun h => ∃ h1 h2, (∀ b, J (h1 b) (h2 b) (h b)) ∧ A h1 ∧ B h2
instance : Mul HP := ⟨sep⟩
def emp : HP := fun h => ∀ b, h b = none
instance : One HP := ⟨emp⟩
theorem mul_def (A B : HP) : A * B = sep A B := rfl
theorem HP.ext {A B : HP} (h : ∀ r, A r ↔ B r) : A = B := funext fun r => propext (h r)
theorem sep_comm (A B : HP) : A * B = B * A := by
  refine HP.ext fun r => ?_
  constructor
  · rintro ⟨h1, h2, hj, a, b⟩; exact ⟨h2, h1, fun c => J_comm _ _ _ (hj c), b, a⟩
  · rintro ⟨h1, h2, hj, a, b⟩; exact ⟨h2, h1, fun c => J_comm _ _ _ (hj c), b, a⟩
theorem sep_assoc' {A B C : HP} {r : Res} (h : ((A * B) * C) r) : (A * (B * C)) r := by
  obtain ⟨h12, h3, hj, ⟨h1, h2, hk, a, b⟩, c⟩ := h
  exact ⟨h1, fun x => jf (h2 x) (h3 x), fun x => (J_assoc _ _ _ _ _ (hk x) (hj x)).2, a, h2, h3, fun x => (J_assoc _ _ _ _ _ (hk x) (hj x)).1, b, c⟩
theorem sep_assoc (A B C : HP) : A * B * C = A * (B * C) := by
  refine HP.ext fun r => ⟨sep_assoc', fun h => ?_⟩
  rw [sep_comm A (B * C), sep_comm B C] at h
  have h1 := sep_assoc' h
  rw [sep_comm C (B * A), sep_comm B A] at h1
  exact h1
theorem sep_one (A : HP) : A * 1 = A := by
  refine HP.ext fun r => ?_
  constructor
  · rintro ⟨h1, h2, hj, a, b⟩
    have e : h1 = r := funext fun x => by
      have h := hj x
      rw [b x] at h
      cases h3 : h1 x with
      | none => rw [h3] at h; exact h.symm
      | some v => rw [h3] at h; exact h.symm
    exact e ▸ a
  · intro a
    refine ⟨r, fun _ => none, fun x => ?_, a, fun _ => rfl⟩
    cases h : r x with
    | none => exact rfl
    | some v => exact rfl
theorem one_sep (A : HP) : 1 * A = A := by rw [sep_comm, sep_one]
theorem sep_left_comm (A B C : HP) : A * (B * C) = B * (A * C) := by rw [← sep_assoc, sep_comm A B, sep_assoc]
instance : Std.Commutative (α := HP) (· * ·) := ⟨sep_comm⟩
instance : Std.Associative (α := HP) (· * ·) := ⟨sep_assoc⟩
/-- A block, known whole: its cells as a list. -/
def blk (p : Bool) (b : Nat) (o : Obj) : HP := fun h => h = fun c => if c = b then some (p, o) else none
def cl (p : Bool) (b : Nat) (l : List Value) (t : TypeId) (fr : Nat × Nat) : HP := blk p b (.cells l.toArray t fr)
/-- A plain fact. -/
def pu (p : Prop) : HP := fun h => p ∧ ∀ b, h b = none
def exh {X : Type} (A : X → HP) : HP := fun h => ∃ x, A x h
/-! ### In a world -/
class DR where
  dr : Bool
set_option linter.unusedSectionVars false
variable [DR]
structure Sat (w0 w : World) (A : HP) : Prop where
  os : w.os = w0.os
  tape : w.tape = w0.tape
  output : w.output = w0.output
  size : w0.heap.size ≤ w.heap.size ∧ (DR.dr = true → w0.drawn ≤ w.drawn)
  mem : ∃ h, A h ∧ ∀ b p o, h b = some (p, o) → w.heap[b]? = some o
theorem Sat.drop {w0 w : World} {A B : HP} (h : Sat w0 w (A * B)) : Sat w0 w B := by
  obtain ⟨r, ⟨h1, h2, hj, _, hb⟩, hm⟩ := h.mem
  refine ⟨h.os, h.tape, h.output, h.size, h2, hb, fun b p o e => hm b p o ?_⟩
  have hx := hj b
  rw [e] at hx
  cases h3 : h1 b with
  | none => rw [h3] at hx; exact hx
  | some v => rw [h3] at hx; rw [hx.2.2, hx.2.1]
theorem Sat.dropR {w0 w : World} {A B : HP} (h : Sat w0 w (A * B)) : Sat w0 w A := by rw [sep_comm] at h; exact h.drop
theorem Sat.drew {w0 w : World} {A : HP} (h : Sat w0 w A) : Sat w0 w.drew A := ⟨h.os, h.tape, h.output, ⟨h.size.1, fun hd => Nat.le_succ_of_le (h.size.2 hd)⟩, h.mem⟩
theorem Sat.drawn {w0 w : World} {A : HP} (h : Sat w0 w A) : Sat w0 { w with drawn := w.drawn + 1 } A := ⟨h.os, h.tape, h.output, ⟨h.size.1, fun hd => Nat.le_succ_of_le (h.size.2 hd)⟩, h.mem⟩
theorem Sat.blk {w0 w : World} {A : HP} {p : Bool} {b : Nat} {o : Obj} (h : Sat w0 w (blk p b o * A)) : w.heap[b]? = some o := by
  obtain ⟨r, hr, hm⟩ := h.dropR.mem
  exact hm b p o (by rw [hr]; simp)
theorem Sat.alloc {w0 w : World} {A : HP} (h : Sat w0 w A) (o : Obj) : Sat w0 { w with heap := w.heap.push o } (Go.Proofs.YtcelailgedndnaaGreatS.blk true w.heap.size o * A) := by
  obtain ⟨r, hr, hm⟩ := h.mem
  have hn : ∀ b, w.heap.size ≤ b → r b = none := fun b hb => by
    cases e : r b with
    | none => rfl
    | some v => have := hm b v.1 v.2 e; simp [Array.getElem?_eq_none hb] at this
  refine ⟨h.os, h.tape, h.output, ⟨by have := h.size.1; simp; omega, h.size.2⟩, fun c => if c = w.heap.size then some (true, o) else r c, ⟨_, r, fun c => ?_, rfl, hr⟩, fun b p o' e => ?_⟩
  · by_cases hc : c = w.heap.size
    · subst hc; simp only [if_true]; rw [hn _ (Nat.le_refl _)]; exact rfl
    · simp only [if_neg hc]; exact rfl
  · by_cases hc : b = w.heap.size
    · subst hc; simp at e; obtain ⟨_, rfl⟩ := e; simp
    · simp only [if_neg hc] at e
      have := hm b p o' e
      have hlt : b < w.heap.size := (Array.getElem?_eq_some_iff.1 this).1
      simp only [Array.getElem?_push]; rw [if_neg hc]; exact this
theorem Sat.setBlock {w0 w w' : World} {A : HP} {b : Nat} {o o' : Obj} (h : Sat w0 w (Go.Proofs.YtcelailgedndnaaGreatS.blk true b o * A)) (h1 : w'.os = w.os) (h2 : w'.tape = w.tape) (h3 : w'.output = w.output) (h4 : w'.heap.size = w.heap.size)
    (h5 : w'.heap[b]? = some o') (h6 : ∀ c, c ≠ b → w'.heap[c]? = w.heap[c]?) (h7 : w.drawn ≤ w'.drawn := by first | exact Nat.le_refl _ | simp) : Sat w0 w' (Go.Proofs.YtcelailgedndnaaGreatS.blk true b o' * A) := by
  obtain ⟨r, ⟨r1, r2, hj, hb, ha⟩, hm⟩ := h.mem
  have hr1 : r1 = fun c => if c = b then some (true, o) else none := hb
  refine ⟨h1.trans h.os, h2.trans h.tape, h3.trans h.output, ⟨by rw [h4]; exact h.size.1, fun hd => Nat.le_trans (h.size.2 hd) h7⟩, fun c => if c = b then some (true, o') else r c, ⟨fun c => if c = b then some (true, o') else none, r2, fun c => ?_, rfl, ha⟩, fun c p u e => ?_⟩
  · have hx := hj c
    rw [hr1] at hx
    by_cases hc : c = b
    · subst hc
      simp only [if_true] at hx ⊢
      cases h8 : r2 c with
      | none => exact rfl
      | some v => rw [h8] at hx; exact absurd hx.1 (by simp)
    · simp only [if_neg hc] at hx ⊢; exact hx
  · by_cases hc : c = b
    · subst hc; simp at e; obtain ⟨_, rfl⟩ := e; exact h5
    · simp only [if_neg hc] at e; rw [h6 c hc]; exact hm c p u e
theorem Sat.pure {w0 w : World} {A : HP} {p : Prop} (h : Sat w0 w (pu p * A)) : p := by
  obtain ⟨r, ⟨r1, r2, _, hp, _⟩, _⟩ := h.mem
  exact hp.1
theorem Sat.ex {w0 w : World} {X : Type} {A : X → HP} {B : HP} (h : Sat w0 w (exh A * B)) : ∃ x, Sat w0 w (A x * B) := by
  obtain ⟨r, ⟨r1, r2, hj, ⟨x, hx⟩, hb⟩, hm⟩ := h.mem
  exact ⟨x, h.os, h.tape, h.output, h.size, r, ⟨r1, r2, hj, hx, hb⟩, hm⟩
theorem Sat.ofPure {w0 w : World} {A : HP} {p : Prop} (hp : p) (h : Sat w0 w A) : Sat w0 w (pu p * A) := by
  obtain ⟨r, hr, hm⟩ := h.mem
  exact ⟨h.os, h.tape, h.output, h.size, r, ⟨fun _ => none, r, fun _ => rfl, ⟨hp, fun _ => rfl⟩, hr⟩, hm⟩
theorem Sat.ofEx {w0 w : World} {X : Type} {A : X → HP} {B : HP} (x : X) (h : Sat w0 w (A x * B)) : Sat w0 w (exh A * B) := by
  obtain ⟨r, ⟨r1, r2, hj, hx, hb⟩, hm⟩ := h.mem
  exact ⟨h.os, h.tape, h.output, h.size, r, ⟨r1, r2, hj, ⟨x, hx⟩, hb⟩, hm⟩
/-- What a world that bears one bears the other, whatever stands beside. -/
def Ent (A B : HP) : Prop := ∀ w0 w F, Sat w0 w (A * F) → Sat w0 w (B * F)
theorem Ent.refl (A : HP) : Ent A A := fun _ _ _ h => h
theorem Ent.trans {A B C : HP} (h : Ent A B) (k : Ent B C) : Ent A C := fun _ _ _ s => k _ _ _ (h _ _ _ s)
theorem Ent.frame {A B : HP} (h : Ent A B) (C : HP) : Ent (A * C) (B * C) := fun w0 w F s => by
  rw [sep_assoc] at s ⊢; exact h _ _ _ s
theorem Ent.frameL {A B : HP} (h : Ent A B) (C : HP) : Ent (C * A) (C * B) := by rw [sep_comm C A, sep_comm C B]; exact h.frame C
theorem Ent.drop (A B : HP) : Ent (A * B) B := fun w0 w F s => by rw [sep_assoc] at s; exact s.drop
theorem Ent.dropR (A B : HP) : Ent (A * B) A := by rw [sep_comm]; exact Ent.drop _ _
theorem Ent.toOne (A : HP) : Ent A 1 := fun w0 w F s => by rw [one_sep]; exact s.drop
theorem Ent.pure {A : HP} {p : Prop} (h : p) : Ent A (pu p * A) := fun w0 w F s => by rw [sep_assoc]; exact s.ofPure h
theorem Ent.ofEq {A B : HP} (h : A = B) : Ent A B := h ▸ Ent.refl A
theorem Ent.ex {X : Type} {A : X → HP} (x : X) : Ent (A x) (exh A) := fun _ _ _ s => s.ofEx x
/-! ### Finding things in a product -/
class HasB (H : HP) (p : outParam Bool) (b : Nat) (o : outParam Obj) (R : outParam HP) : Prop where eq : H = blk p b o * R
instance (priority := 900) hasB_cl1 (p b l t fr) : HasB (cl p b l t fr) p b (.cells l.toArray t fr) 1 := ⟨(sep_one _).symm⟩
instance (priority := 1000) hasB_cl (p b l t fr R) : HasB (cl p b l t fr * R) p b (.cells l.toArray t fr) R := ⟨rfl⟩
instance (priority := 500) hasB_tail (A H p b o R) [h : HasB H p b o R] : HasB (A * H) p b o (A * R) := ⟨by rw [h.eq, sep_left_comm]⟩
/-- The first of 'H', found, and the rest. -/
class Take (A H : HP) (R : outParam HP) : Prop where eq : H = A * R
instance (priority := 1000) take_one (H) : Take 1 H H := ⟨(one_sep H).symm⟩
instance (priority := 800) take_self (A) : Take A A 1 := ⟨(sep_one A).symm⟩
instance (priority := 900) take_head (A R) : Take A (A * R) R := ⟨rfl⟩
instance (priority := 500) take_tail (A B H R) [h : Take A H R] : Take A (B * H) (B * R) := ⟨by rw [h.eq, sep_left_comm]⟩
instance (priority := 1100) take_mul (A B H R S) [h : Take A H R] [k : Take B R S] : Take (A * B) H S := ⟨by rw [h.eq, k.eq, sep_assoc]⟩
/-! ### Frames of temporaries -/
def Env : Type := Nat → Value
def ev (e : Env) : Operand → Value
  | .tmp t => e t
  | .const v => v
  | .global g => .pointer (some ⟨g, 0, none⟩)
  | .func f => .func (.func f) #[] #[]
def put (e : Env) (d : Nat) (v : Value) : Env := fun t => bif Nat.beq t d then v else e t
def putO (e : Env) : Option Nat → Value → Env
  | none, _ => e
  | some d, v => put e d v
structure Rep (n : Nat) (e : Env) (a : Act) : Prop where
  size : a.tmps.size = n
  defers : a.defers = []
  val : ∀ t, a.tmps.getD t undef = e t
theorem Rep.eval {n : Nat} {e : Env} {a : Act} (h : Rep n e a) : a.eval = ev e := funext fun x => by cases x <;> first | exact h.val _ | rfl
theorem Rep.put {n d : Nat} {e : Env} {a : Act} (h : Rep n e a) (hd : d < n) (v : Value) : Rep n (Go.Proofs.YtcelailgedndnaaGreatS.put e d v) (a.put (some d) v) := by
  refine ⟨by simp [Act.put, h.size], h.defers, fun t => ?_⟩
  simp only [Act.put, Go.Proofs.YtcelailgedndnaaGreatS.put]
  by_cases ht : t = d
  · subst ht
    have hs := h.size
    simp [hs, hd]
  · have hb : Nat.beq t d = false := by
      cases h : Nat.beq t d with
      | false => rfl
      | true => exact absurd (Nat.eq_of_beq_eq_true h) ht
    have := h.val t
    rw [hb]
    simp only [Array.getD_eq_getD_getElem?, cond_false] at this ⊢
    rw [Array.getElem?_setIfInBounds_ne (Ne.symm ht)]
    exact this
def dOk (n : Nat) : Option Nat → Prop
  | none => True
  | some d => d < n
theorem Rep.putO {n : Nat} {d : Option Nat} {e : Env} {a : Act} (h : Rep n e a) (hd : dOk n d) (v : Value) : Rep n (Go.Proofs.YtcelailgedndnaaGreatS.putO e d v) (a.put d v) := by
  cases d with
  | none => exact h
  | some d => exact h.put hd v
end Go.Proofs.YtcelailgedndnaaGreatS
namespace Go.Proofs.YtcelailgedndnaaGreatS
set_option linter.unusedSectionVars false
variable [DR]
open Go.RowKit
set_option linter.unusedVariables false
set_option linter.unusedSimpArgs false
variable {P : Program}
abbrev Post := Exit → Env → HP → Prop
def QQ (w0 : World) (F : HP) (n : Nat) (Φ : Post) : Exit → Act → World → Prop := fun x a w => ∃ e H, Rep n e a ∧ Φ x e H ∧ Sat w0 w (H * F)
def Ex (P : Program) (n : Nat) (c : Code) (e : Env) (H : HP) (Φ : Post) : Prop :=
  ∀ a w0 w F, Rep n e a → Sat w0 w (H * F) → c.wp P (QQ w0 F n Φ) a w
def Ops (P : Program) (n : Nat) (ops : Array Oper) (l : List Oper) (e : Env) (H : HP) (Φ : Post) : Prop :=
  ∀ a w0 w F, Rep n e a → Sat w0 w (H * F) → wpList P ops (QQ w0 F n Φ) l a w
/-- A piece of the model's monad: it ends well, with this value and this memory. -/
def T {α : Type} (P : Program) (s : Sem α) (H : HP) (Ψ : α → HP → Prop) : Prop :=
  ∀ w0 w F, Sat w0 w (H * F) → ∃ v w' H', s.run P w = .ok v w' ∧ Ψ v H' ∧ Sat w0 w' (H' * F)
/-- It only looks. -/
def V {α : Type} (P : Program) (s : Sem α) (H : HP) (v : α) : Prop := ∀ w0 w F, Sat w0 w (H * F) → s.run P w = .ok v w
/-- A call's contract: for some x of X it hands back 'val x', 'pr x' holds and the memory is 'res x'. -/
def Spec (P : Program) (f : FuncId) (args : List Value) (H : HP) {X : Type} (val : X → Value) (pr : X → Prop) (res : X → HP) : Prop :=
  ∀ w0 w F, Sat w0 w (H * F) → Calls P f args.toArray w fun e w' => ∃ x, e = .returned (val x) ∧ pr x ∧ Sat w0 w' (res x * F)
def andThen (K : Env → HP → Prop) (Φ : Post) : Post
  | .normal, e, H => K e H
  | x, e, H => Φ x e H
def inBlk (id : Nat) (Φ : Post) : Post
  | .exit i, e, H => if i = id then Φ .normal e H else Φ (.exit i) e H
  | x, e, H => Φ x e H
section
variable {n : Nat} {e : Env} {H : HP} {Φ : Post} {c c1 c2 : Code}
theorem Ex.ent {H' : HP} (h : Ex P n c e H' Φ) (k : Ent H H') : Ex P n c e H Φ := fun a w0 w F r s => h a w0 w F r (k _ _ _ s)
theorem Ops.ent {H' : HP} {ops : Array Oper} {l : List Oper} (h : Ops P n ops l e H' Φ) (k : Ent H H') : Ops P n ops l e H Φ := fun a w0 w F r s => h a w0 w F r (k _ _ _ s)
theorem Ex.mono {Ψ : Post} (h : Ex P n c e H Ψ) (k : ∀ x e H, Ψ x e H → Φ x e H) : Ex P n c e H Φ :=
  fun a w0 w F r s => wp_mono (h a w0 w F r s) fun _ _ _ ⟨e', H', r', q, s'⟩ => ⟨e', H', r', k _ _ _ q, s'⟩
theorem Ex.pu {p : Prop} (h : p → Ex P n c e H Φ) : Ex P n c e (pu p * H) Φ := fun a w0 w F r s => by
  rw [sep_assoc] at s; exact h s.pure a w0 w F r s.drop
theorem Ex.exh {X : Type} {A : X → HP} (h : ∀ x, Ex P n c e (A x * H) Φ) : Ex P n c e (exh A * H) Φ := fun a w0 w F r s => by
  rw [sep_assoc] at s
  obtain ⟨x, s⟩ := s.ex
  exact h x a w0 w F r (by rw [sep_assoc]; exact s)
theorem Ops.pu {p : Prop} {ops : Array Oper} {l : List Oper} (h : p → Ops P n ops l e H Φ) : Ops P n ops l e (pu p * H) Φ := fun a w0 w F r s => by
  rw [sep_assoc] at s; exact h s.pure a w0 w F r s.drop
theorem Ops.exh {X : Type} {A : X → HP} {ops : Array Oper} {l : List Oper} (h : ∀ x, Ops P n ops l e (A x * H) Φ) : Ops P n ops l e (exh A * H) Φ := fun a w0 w F r s => by
  rw [sep_assoc] at s
  obtain ⟨x, s⟩ := s.ex
  exact h x a w0 w F r (by rw [sep_assoc]; exact s)
theorem ex_skip (h : Φ .normal e H) : Ex P n .skip e H Φ := fun _ _ _ _ r s => wp_skip ⟨e, H, r, h, s⟩
theorem ex_ret (h : Φ .ret e H) : Ex P n .ret e H Φ := fun _ _ _ _ r s => wp_ret ⟨e, H, r, h, s⟩
theorem ex_exit {id : Nat} (h : Φ (.exit id) e H) : Ex P n (.exit id) e H Φ := fun _ _ _ _ r s => wp_exit ⟨e, H, r, h, s⟩
theorem ex_seq (h : Ex P n c1 e H (andThen (fun e H => Ex P n c2 e H Φ) Φ)) : Ex P n (.seq c1 c2) e H Φ := fun a w0 w F r s =>
  wp_seq (wp_mono (h a w0 w F r s) fun x a' w' ⟨e', H', r', q, s'⟩ => by
    cases x with
    | normal => exact q a' w0 w' F r' s'
    | _ => exact ⟨e', H', r', q, s'⟩)
theorem ex_cond {o : Operand} {t : Bool} (ho : ev e o = .bool t) (h1 : t = true → Ex P n c1 e H Φ) (h2 : t = false → Ex P n c2 e H Φ) : Ex P n (.cond o c1 c2) e H Φ :=
  fun a w0 w F r s => wp_cond_split (t := t) (by rw [r.eval]; exact ho) (fun ht => h1 ht a w0 w F r s) (fun ht => h2 ht a w0 w F r s)
theorem ex_cond_t {o : Operand} (ho : ev e o = .bool true) (h1 : Ex P n c1 e H Φ) : Ex P n (.cond o c1 c2) e H Φ := ex_cond ho (fun _ => h1) (fun h => by cases h)
theorem ex_cond_f {o : Operand} (ho : ev e o = .bool false) (h2 : Ex P n c2 e H Φ) : Ex P n (.cond o c1 c2) e H Φ := ex_cond ho (fun h => by cases h) (fun _ => h2)
theorem ex_block {id : Nat} (h : Ex P n c e H (inBlk id Φ)) : Ex P n (.block id c) e H Φ := fun a w0 w F r s =>
  wp_block (wp_mono (h a w0 w F r s) fun x a' w' ⟨e', H', r', q, s'⟩ => by
    cases x with
    | exit i =>
      simp only [inBlk] at q
      simp only [Exit.inBlock]
      split
      · rename_i hi; rw [if_pos hi] at q; exact ⟨e', H', r', q, s'⟩
      · rename_i hi; rw [if_neg hi] at q; exact ⟨e', H', r', q, s'⟩
    | _ => exact ⟨e', H', r', q, s'⟩)
theorem ex_region {id : Nat} {l : List Oper} (h : Ops P n l.toArray l e H Φ) : Ex P n (.region id l.toArray false) e H Φ :=
  fun a w0 w F r s => wp_region_lit (h a w0 w F r s)
/-- A loop: a relation with a number that each round lowers. -/
theorem ex_loop (I : Nat → Env → HP → Prop) {m : Nat} (h0 : I m e H)
    (round : ∀ m e H, I m e H → Ex P n c e H (andThen (fun e' H' => ∃ m', m' < m ∧ I m' e' H') Φ)) : Ex P n (.loop c) e H Φ := fun a w0 w F r s =>
  wp_loop_ghost (fun m a w => ∃ e H, I m e H ∧ Rep n e a ∧ Sat w0 w (H * F)) m ⟨e, H, h0, r, s⟩ fun m a w ⟨e', H', hi, r', s'⟩ =>
    wp_mono (round m e' H' hi a w0 w F r' s') fun x a' w' ⟨e2, H2, r2, q, s2⟩ => by
      cases x with
      | normal => obtain ⟨m', hm, hi'⟩ := q; exact ⟨m', hm, e2, H2, hi', r2, s2⟩
      | _ => exact ⟨e2, H2, r2, q, s2⟩
theorem ops_nil {ops : Array Oper} (h : Φ .normal e H) : Ops P n ops [] e H Φ := fun _ _ _ _ r s => wpList_nil ⟨e, H, r, h, s⟩
/-- What comes behind an operation. -/
def nx (P : Program) (n : Nat) (ops : Array Oper) (rest : List Oper) (e : Env) (d : Option Nat) (Φ : Post) : Next → HP → Prop
  | .value v, H => Ops P n ops rest (putO e d v) H Φ
  | .skip, H => Ops P n ops rest (putO e d undef) H Φ
  | _, _ => False
theorem ops_step {ops : Array Oper} {o : Oper} {rest : List Oper} (hg : o.guard = none) (hd : dOk n o.dst) (h : T P (execOp (ev e) o) H (nx P n ops rest e o.dst Φ)) : Ops P n ops (o :: rest) e H Φ := fun a w0 w F r s =>
  wpList_plain hg fun K hK => by
    obtain ⟨v, w', H', hr, hv, s'⟩ := h w0 w F s
    unfold Oper.wp
    rw [r.eval, hr]
    cases v with
    | value v => exact hK _ _ (hv _ w0 w' F (r.putO hd v) s')
    | skip => exact hK _ _ (hv _ w0 w' F (r.putO hd undef) s')
    | _ => exact hv.elim
/-- A guarded operation that is not wanted. -/
theorem ops_unwanted {l : List Oper} {o : Oper} {rest : List Oper} {j : Nat} {bw b : Bool} {d t : Nat} (hg : o.guard = some (j, bw)) (hj : (l[j]?).bind (·.dst) = some t) (hn : t < n) (hb : e t = .bool b) (hne : (b == bw) = false)
    (ho : o.dst = some d) (hd : d < n) (h : Ops P n l.toArray rest (put e d undef) H Φ) : Ops P n l.toArray (o :: rest) e H Φ := fun a w0 w F r s => by
  have hy : Region.wanted o (yielded l.toArray a.tmps) = false := by
    unfold Region.wanted yielded
    have hs := r.size
    have hv := r.val t
    rw [hb] at hv
    have hlt : t < a.tmps.size := by omega
    have hv2 : a.tmps[t]? = some (.bool b) := by
      simp [hlt] at hv ⊢; exact hv
    rw [hg]
    simp only [List.getElem?_toArray, hj, Option.bind_some, hv2]
    cases b <;> cases bw <;> simp_all
  unfold wpList
  rw [if_neg (by rw [hy]; simp)]
  rw [ho]
  exact h _ w0 w F (r.put hd undef) s
theorem ops_wanted {l : List Oper} {o : Oper} {rest : List Oper} {j : Nat} {bw : Bool} {t : Nat} (hg : o.guard = some (j, bw)) (hj : (l[j]?).bind (·.dst) = some t) (hn : t < n) (hb : e t = .bool bw)
    (h : Ops P n l.toArray ({ o with guard := none } :: rest) e H Φ) : Ops P n l.toArray (o :: rest) e H Φ := fun a w0 w F r s => by
  have hy : Region.wanted o (yielded l.toArray a.tmps) = true := by
    unfold Region.wanted yielded
    have hs := r.size
    have hv := r.val t
    rw [hb] at hv
    have hlt : t < a.tmps.size := by omega
    have hv2 : a.tmps[t]? = some (.bool bw) := by
      simp [hlt] at hv ⊢; exact hv
    rw [hg]
    simp only [List.getElem?_toArray, hj, Option.bind_some, hv2]
    cases bw <;> simp
  have h1 := h a w0 w F r s
  unfold wpList at h1 ⊢
  rw [if_pos (by simp [Region.wanted])] at h1
  rw [if_pos hy]
  exact h1
/-! ### Calls -/
theorem Spec.mono {f : FuncId} {args : List Value} {X Y : Type} {val : X → Value} {pr : X → Prop} {res : X → HP} {val' : Y → Value} {pr' : Y → Prop} {res' : Y → HP}
    (h : Spec P f args H val pr res) (k : ∀ x, pr x → ∃ y, val x = val' y ∧ pr' y ∧ Ent (res x) (res' y)) : Spec P f args H val' pr' res' := fun w0 w F s =>
  (h w0 w F s).mono fun e w' ⟨x, he, hp, s'⟩ => by
    obtain ⟨y, hv, hp', hen⟩ := k x hp
    exact ⟨y, by rw [he, hv], hp', hen _ _ _ s'⟩
theorem Spec.ent {f : FuncId} {args : List Value} {H' : HP} {X : Type} {val : X → Value} {pr : X → Prop} {res : X → HP} (h : Spec P f args H' val pr res) (k : Ent H H') : Spec P f args H val pr res :=
  fun w0 w F s => h w0 w F (k _ _ _ s)
theorem Spec.frame {f : FuncId} {args : List Value} {X : Type} {val : X → Value} {pr : X → Prop} {res : X → HP} (h : Spec P f args H val pr res) (G : HP) : Spec P f args (H * G) val pr (fun x => res x * G) := fun w0 w F s => by
  rw [sep_assoc] at s
  exact (h w0 w _ s).mono fun e w' ⟨x, he, hp, s'⟩ => ⟨x, he, hp, by rw [sep_assoc]; exact s'⟩
theorem Spec.pu {f : FuncId} {args : List Value} {X : Type} {val : X → Value} {pr : X → Prop} {res : X → HP} {p : Prop} (h : p → Spec P f args H val pr res) : Spec P f args (Go.Proofs.YtcelailgedndnaaGreatS.pu p * H) val pr res := fun w0 w F s => by
  rw [sep_assoc] at s; exact h s.pure w0 w F s.drop
theorem Spec.exh {f : FuncId} {args : List Value} {X Y : Type} {val : X → Value} {pr : X → Prop} {res : X → HP} {A : Y → HP} (h : ∀ y, Spec P f args (A y * H) val pr res) : Spec P f args (Go.Proofs.YtcelailgedndnaaGreatS.exh A * H) val pr res := fun w0 w F s => by
  rw [sep_assoc] at s
  obtain ⟨y, s⟩ := s.ex
  exact h y w0 w F (by rw [sep_assoc]; exact s)
/-- A function of the program that a call enters. -/
class Goes (P : Program) (f : FuncId) : Prop where
  goes : ∃ fn, P.funcs[f]? = some fn ∧ (fn.name == "runtime.NumGoroutine") = false ∧ fn.body.isNone = false
theorem run_call {f : FuncId} [g : Goes P f] (args : Array Value) (w : World) : (callFunc f args).run P w = .ok (.enter f args) w := by
  obtain ⟨fn, h1, h2, h3⟩ := g.goes
  have h4 : ¬ fn.name = "runtime.NumGoroutine" := by simpa using h2
  have h5 : ¬ fn.body = none := by intro h; rw [h] at h3; simp at h3
  simp [callFunc, program, Sem.run, h1, h4, h5]
theorem ops_call {ops : Array Oper} {rest : List Oper} {d : Option Nat} {f : FuncId} {l : List Operand} {ats : Array TypeId} {ty : TypeId} {ps : String} {af : Array Edge} {vs : List Value}
    {X : Type} {val : X → Value} {pr : X → Prop} {res : X → HP} {Hp Hf : HP} [g : Goes P f] (hd : dOk n d) {cf : Operand} (hcf : ev e cf = .func (.func f) #[] #[]) (hv : l.map (ev e) = vs) (hs : Spec P f vs Hp val pr res) (ht : H = Hp * Hf)
    (k : ∀ x, pr x → Ops P n ops rest (putO e d (val x)) (res x * Hf) Φ) :
    Ops P n ops ({ dst := d, op := .call { callee := .value cf, args := l.toArray, argTypes := ats }, type := ty, pos := ps, after := af, guard := none } :: rest) e H Φ := fun a w0 w F r s =>
  wpList_plain rfl fun K hK => by
    unfold Oper.wp
    have hx : (execOp a.eval { dst := d, op := .call { callee := .value cf, args := l.toArray, argTypes := ats }, type := ty, pos := ps, after := af, guard := none }).run P w = .ok (.enter f vs.toArray) w := by
      rw [r.eval]
      simp only [execOp, resolve, hcf, Deferred.ofValue, invoke, List.map_toArray, hv]
      simp [run_call]
    rw [hx]
    simp only [Oper.upon]
    rw [ht, sep_assoc] at s
    refine (hs w0 w _ s).mono ?_
    rintro e' w' ⟨x, rfl, hp, s'⟩
    refine hK _ _ (k x hp _ w0 w' F (r.putO hd _) ?_)
    rw [sep_assoc]; exact s'
/-- A function's own text: the frame at its beginning. -/
def envOf (vs : List Value) : Env := fun t => vs.getD t undef
/-- What is handed back, out of the frame. -/
def resl (fn : Func) (e : Env) : Sem Value := do
  let vs ← fn.results.mapM fun
    | .tmp t => pure (e t)
    | .cell a t => do loadVar t (← asAddr (e a))
  pure (if h : vs.size = 1 then vs[0] else .tuple vs)
theorem resl_eq {fn : Func} {a : Act} (r : Rep n e a) : results fn a.tmps = resl fn e := by
  unfold results resl
  congr 1
  congr 1
  funext x
  cases x with
  | tmp t => simp only [r.val t]
  | cell b t => simp only [r.val b]
theorem spec_of {f : FuncId} {fn : Func} {c : Code} {vs : List Value} {X : Type} {val : X → Value} {pr : X → Prop} {res : X → HP} (hf : P.funcs[f]? = some fn) (hb : fn.body = some c) (hn : fn.ntmps = n) (hl : Nat.ble vs.length n = true)
    (h : Ex P n c (envOf vs) H (fun x e H' => (x = .normal ∨ x = .ret) ∧ ∃ y, V P (resl fn e) H' (val y) ∧ pr y ∧ Ent H' (res y))) : Spec P f vs H val pr res := fun w0 w F s => by
  subst hn
  have hl := Nat.le_of_ble_eq_true hl
  refine calls_of_wp hf hb ?_
  refine wp_mono (h _ w0 w F ⟨by simp; omega, rfl, fun t => ?_⟩ s) ?_
  · simp only [envOf, Array.getD_eq_getD_getElem?, List.getD_eq_getElem?_getD]
    by_cases ht : t < vs.length
    · rw [Array.getElem?_append_left (by simpa using ht)]; simp
    · rw [Array.getElem?_append_right (by simpa using ht)]
      have e1 : vs[t]? = none := by simp; omega
      rw [e1]
      by_cases ht2 : t - vs.length < fn.ntmps - vs.length
      · simp [ht2]
      · simp [ht2]
  · rintro x a' w' ⟨e', H', r', ⟨hx, y, hv, hp, hen⟩, s'⟩
    have hr := hv w0 w' F s'
    rw [← resl_eq r'] at hr
    have : bodyPost P fn (fun e w' => ∃ x, e = .returned (val x) ∧ pr x ∧ Sat w0 w' (res x * F)) .ret a' w' := ⟨r'.defers, _, hr, y, rfl, hp, hen _ _ _ s'⟩
    rcases hx with rfl | rfl
    · exact this
    · exact this
end
/-! ### The model's monad -/
section
variable {α β : Type} {H : HP}
theorem T.ofV {s : Sem α} {v : α} {Ψ : α → HP → Prop} (h : V P s H v) (k : Ψ v H) : T P s H Ψ := fun w0 w F q => ⟨v, w, H, h w0 w F q, k, q⟩
theorem T.ofRun {s : Sem α} {v : α} {Ψ : α → HP → Prop} (h : ∀ w, s.run P w = .ok v w) (k : Ψ v H) : T P s H Ψ := T.ofV (fun _ w _ _ => h w) k
theorem T.pure {v : α} {Ψ : α → HP → Prop} (k : Ψ v H) : T P (Pure.pure v) H Ψ := T.ofRun (fun _ => rfl) k
theorem T.bind {s : Sem α} {f : α → Sem β} {Ψ : β → HP → Prop} (h : T P s H (fun v H' => T P (f v) H' Ψ)) : T P (s >>= f) H Ψ := fun w0 w F q => by
  obtain ⟨v, w', H', hr, hk, q'⟩ := h w0 w F q
  obtain ⟨u, w2, H2, hr2, hk2, q2⟩ := hk w0 w' F q'
  exact ⟨u, w2, H2, by rw [Sem.run_bind, hr]; simpa using hr2, hk2, q2⟩
theorem V.bind {s : Sem α} {f : α → Sem β} {v : α} {u : β} (h : V P s H v) (k : V P (f v) H u) : V P (s >>= f) H u := fun w0 w F q => by
  rw [Sem.run_bind, h w0 w F q]; simpa using k w0 w F q
theorem V.pure (v : α) : V P (Pure.pure v) H v := fun _ _ _ _ => rfl
theorem V.ofRun {s : Sem α} {v : α} (h : ∀ w, s.run P w = .ok v w) : V P s H v := fun _ w _ _ => h w
theorem T.mono {s : Sem α} {Ψ Ψ' : α → HP → Prop} (h : T P s H Ψ) (k : ∀ v H, Ψ v H → Ψ' v H) : T P s H Ψ' := fun w0 w F q => by
  obtain ⟨v, w', H', hr, hk, q'⟩ := h w0 w F q
  exact ⟨v, w', H', hr, k _ _ hk, q'⟩
end
end Go.Proofs.YtcelailgedndnaaGreatS
namespace Go.Proofs.YtcelailgedndnaaGreatS
set_option linter.unusedSectionVars false
variable [DR]
open Go.RowKit
set_option linter.unusedVariables false
set_option linter.unusedSimpArgs false
variable {P : Program} {n : Nat} {ops : Array Oper} {rest : List Oper} {e : Env} {H : HP} {Φ : Post} {d : Nat} {ty : TypeId} {ps : String} {af : Array Edge}
/-! ### Facts on types, one instance a type -/
class Sc (P : Program) (t : TypeId) (z : outParam Value) : Prop where
  agg : ∀ w, (isAgg t).run P w = .ok false w
  size : ∀ w, (sizeOf t).run P w = .ok 1 w
  zero : ∀ w, (zeroValue t).run P w = .ok z w
  one : z.oneCell' = true
class Ag (P : Program) (t : TypeId) (sz : outParam Nat) (z : outParam (List Value)) : Prop where
  agg : ∀ w, (isAgg t).run P w = .ok true w
  size : ∀ w, (sizeOf t).run P w = .ok sz w
  zero : ∀ w, (zeroValue t).run P w = .ok (.agg z.toArray) w
class Fld (P : Program) (s : TypeId) (i : Nat) (off : outParam Nat) : Prop where
  addr : ∀ a w, (Instr.fieldAt s (.pointer (some a)) i).run P w = .ok (.pointer (some (a.add off))) w
class Slc (P : Program) (st : TypeId) (el sz bt : outParam Nat) (z : outParam (List Value)) : Prop where
  und : P.underlying st = some (.slice el)
  size : ∀ w, (sizeOf el).run P w = .ok sz w
  inf : (P.info? el).map (fun i => (i.bytes, i.size, i.zero.map Value.cells)) = some (bt, sz, some z.toArray)
  zsz : z.length = sz
  pos : 0 < sz
theorem Slc.info {P : Program} {st el sz bt : Nat} {z : List Value} (f : Slc P st el sz bt z) : ∃ i v, P.info? el = some i ∧ i.bytes = bt ∧ i.size = sz ∧ i.zero = some v ∧ v.cells = z.toArray := by
  obtain ⟨i, hi, h⟩ := Option.map_eq_some_iff.1 f.inf
  simp only [Prod.mk.injEq] at h
  obtain ⟨v, hv, hc⟩ := Option.map_eq_some_iff.1 h.2.2
  exact ⟨i, v, hi, h.1, h.2.1, hv, hc⟩
class Arr (P : Program) (at_ : TypeId) (len el sz : outParam Nat) : Prop where
  und : P.underlying at_ = some (.array len el)
  size : ∀ w, (sizeOf el).run P w = .ok sz w
theorem oneCell_cells {v : Value} (h : v.oneCell' = true) : v.cells = #[v] := by cases v <;> first | rfl | cases h
/-! ### Operations that only reckon -/
theorem o_rfl {op : Op} {v : Value} (hd : d < n) (h : ∀ w, (execOp (ev e) ⟨some d, op, ty, ps, af, none⟩).run P w = .ok (.value v) w) (k : Ops P n ops rest (put e d v) H Φ) :
    Ops P n ops (⟨some d, op, ty, ps, af, none⟩ :: rest) e H Φ := ops_step rfl hd (T.ofRun h k)
theorem o_move {x : Operand} (hd : d < n) (k : Ops P n ops rest (put e d (ev e x)) H Φ) : Ops P n ops (⟨some d, .move x, ty, ps, af, none⟩ :: rest) e H Φ := o_rfl hd (fun _ => rfl) k
theorem o_assign {x : Operand} (hd : d < n) (k : Ops P n ops rest (put e d (ev e x)) H Φ) : Ops P n ops (⟨some d, .assign x, ty, ps, af, none⟩ :: rest) e H Φ := o_rfl hd (fun _ => rfl) k
theorem o_nil {x : Operand} {a : Addr} (hd : d < n) (hx : ev e x = .pointer (some a)) (k : Ops P n ops rest (put e d (.pointer (some a))) H Φ) : Ops P n ops (⟨some d, .nilCheck x, ty, ps, af, none⟩ :: rest) e H Φ :=
  o_rfl hd (fun w => by simp only [execOp, hx]; rfl) k
theorem o_nil_func {x : Operand} {f : FuncId} {c : Array Value} (hd : d < n) (hx : ev e x = .func (.func f) #[] c) (k : Ops P n ops rest (put e d (.func (.func f) #[] c)) H Φ) : Ops P n ops (⟨some d, .nilCheck x, ty, ps, af, none⟩ :: rest) e H Φ :=
  o_rfl hd (fun w => by simp only [execOp, hx]; rfl) k
/-- The whole numbers' operations, as their values. -/
def io (op : BinOp) (k : IntKind) (a b : Int) : Option Value :=
  match op with
  | .add => some (.int k (k.wrap (a + b)))
  | .sub => some (.int k (k.wrap (a - b)))
  | .mul => some (.int k (k.wrap (a * b)))
  | .and => some (.int k (bits .and k a b))
  | .or => some (.int k (bits .or k a b))
  | .xor => some (.int k (bits .xor k a b))
  | .andNot => some (.int k (bits .andNot k a b))
  | .eql => some (.bool (a == b))
  | .neq => some (.bool (a != b))
  | .lss => some (.bool (decide (a < b)))
  | .leq => some (.bool (decide (a ≤ b)))
  | .gtr => some (.bool (decide (a > b)))
  | .geq => some (.bool (decide (a ≥ b)))
  | _ => none
theorem o_int {x y : Operand} {op : BinOp} {k : IntKind} {a b : Int} {v : Value} {t u : TypeId} (hd : d < n) (hx : ev e x = .int k a) (hy : ev e y = .int k b) (hv : io op k a b = some v)
    (c : Ops P n ops rest (put e d v) H Φ) : Ops P n ops (⟨some d, .binOp op t x y u, ty, ps, af, none⟩ :: rest) e H Φ :=
  o_rfl hd (fun w => by
    simp only [execOp, hx, hy]
    cases op <;> simp only [io, Option.some.injEq, reduceCtorEq] at hv <;> subst hv <;> simp [eqGuard, binOp, Op.intArith, Op.intCmp, Op.intBits, bits]) c
theorem o_quo {x y : Operand} {k : IntKind} {a b : Int} {t u : TypeId} (hd : d < n) (hx : ev e x = .int k a) (hy : ev e y = .int k b) (h0 : b ≠ 0)
    (c : Ops P n ops rest (put e d (.int k (k.wrap (a.tdiv b)))) H Φ) : Ops P n ops (⟨some d, .binOp .quo t x y u, ty, ps, af, none⟩ :: rest) e H Φ :=
  o_rfl hd (fun w => by simp only [execOp, hx, hy]; simp [eqGuard, binOp, Op.intDiv, h0]) c
theorem o_rem {x y : Operand} {k : IntKind} {a b : Int} {t u : TypeId} (hd : d < n) (hx : ev e x = .int k a) (hy : ev e y = .int k b) (h0 : b ≠ 0)
    (c : Ops P n ops rest (put e d (.int k (a.tmod b))) H Φ) : Ops P n ops (⟨some d, .binOp .rem t x y u, ty, ps, af, none⟩ :: rest) e H Φ :=
  o_rfl hd (fun w => by simp only [execOp, hx, hy]; simp [eqGuard, binOp, Op.intDiv, h0]) c
theorem o_shl {x y : Operand} {k yk : IntKind} {a b : Int} {t u : TypeId} (hd : d < n) (hx : ev e x = .int k a) (hy : ev e y = .int yk b) (h0 : 0 ≤ b)
    (c : Ops P n ops rest (put e d (.int k (k.wrap (a * 2 ^ min b.toNat k.bits)))) H Φ) : Ops P n ops (⟨some d, .binOp .shl t x y u, ty, ps, af, none⟩ :: rest) e H Φ :=
  o_rfl hd (fun w => by simp only [execOp, hx, hy]; simp [eqGuard, binOp, Op.shift, Int.not_lt.2 h0]) c
theorem o_shr {x y : Operand} {k yk : IntKind} {a b : Int} {t u : TypeId} (hd : d < n) (hx : ev e x = .int k a) (hy : ev e y = .int yk b) (h0 : 0 ≤ b)
    (c : Ops P n ops rest (put e d (.int k (a.fdiv (2 ^ min b.toNat k.bits)))) H Φ) : Ops P n ops (⟨some d, .binOp .shr t x y u, ty, ps, af, none⟩ :: rest) e H Φ :=
  o_rfl hd (fun w => by simp only [execOp, hx, hy]; simp [eqGuard, binOp, Op.shift, Int.not_lt.2 h0]) c
theorem o_not {x : Operand} {b : Bool} {t : TypeId} (hd : d < n) (hx : ev e x = .bool b) (c : Ops P n ops rest (put e d (.bool !b)) H Φ) : Ops P n ops (⟨some d, .unOp .not t x, ty, ps, af, none⟩ :: rest) e H Φ :=
  o_rfl hd (fun w => by simp only [execOp, hx]; rfl) c
theorem o_neg {x : Operand} {k : IntKind} {a : Int} {t : TypeId} (hd : d < n) (hx : ev e x = .int k a) (c : Ops P n ops rest (put e d (.int k (k.wrap (0 - a)))) H Φ) : Ops P n ops (⟨some d, .unOp .neg t x, ty, ps, af, none⟩ :: rest) e H Φ :=
  o_rfl hd (fun w => by simp only [execOp, hx]; rfl) c
theorem o_cpl {x : Operand} {k : IntKind} {a : Int} {t : TypeId} (hd : d < n) (hx : ev e x = .int k a) (c : Ops P n ops rest (put e d (.int k (bits .xor k (if k.signed then -1 else k.max) a))) H Φ) : Ops P n ops (⟨some d, .unOp .xor t x, ty, ps, af, none⟩ :: rest) e H Φ :=
  o_rfl hd (fun w => by simp only [execOp, hx]; rfl) c
class IntT (P : Program) (t : TypeId) (k : outParam IntKind) : Prop where
  und : P.underlying t = some (.int k)
theorem o_conv {x : Operand} {k k0 : IntKind} {a : Int} {s t : TypeId} [i0 : IntT P s k0] [i : IntT P t k] (hd : d < n) (hx : ev e x = .int k0 a) (c : Ops P n ops rest (put e d (.int k (k.wrap a))) H Φ) : Ops P n ops (⟨some d, .convert s t x, ty, ps, af, none⟩ :: rest) e H Φ :=
  o_rfl hd (fun w => by simp only [execOp, hx]; simp [convert, run_underlying i0.und, run_underlying i.und, Conv.intToInt]) c
theorem o_extract {x : Operand} {l : List Value} {j : Nat} {v : Value} (hd : d < n) (hx : ev e x = .tuple l.toArray) (hj : l[j]? = some v) (c : Ops P n ops rest (put e d v) H Φ) : Ops P n ops (⟨some d, .extract x j, ty, ps, af, none⟩ :: rest) e H Φ :=
  o_rfl hd (fun w => by simp only [execOp, hx]; simp [Instr.extract, hj]) c
theorem o_fieldAddr {x : Operand} {a : Addr} {s i off : Nat} [f : Fld P s i off] (hd : d < n) (hx : ev e x = .pointer (some a)) (c : Ops P n ops rest (put e d (.pointer (some (a.add off)))) H Φ) :
    Ops P n ops (⟨some d, .fieldAddr s x i, ty, ps, af, none⟩ :: rest) e H Φ :=
  o_rfl hd (fun w => by simp only [execOp, hx]; simp [f.addr]) c
theorem add_none (b o k : Nat) : Addr.add ⟨b, o, none⟩ k = ⟨b, o + k, none⟩ := by
  unfold Addr.add; split
  · rename_i h; subst h; rfl
  · rfl
theorem o_fieldAddr' {x : Operand} {b o s i off : Nat} [f : Fld P s i off] (hd : d < n) (hx : ev e x = .pointer (some ⟨b, o, none⟩)) (c : Ops P n ops rest (put e d (.pointer (some ⟨b, o + off, none⟩))) H Φ) :
    Ops P n ops (⟨some d, .fieldAddr s x i, ty, ps, af, none⟩ :: rest) e H Φ := o_fieldAddr hd hx (by rw [add_none]; exact c)
theorem o_index {x y : Operand} {a : Addr} {len cap st el sz bt : Nat} {z : List Value} {k : IntKind} {i : Int} [f : Slc P st el sz bt z] (hd : d < n) (hx : ev e x = .slice (some a) len cap) (hy : ev e y = .int k i) (h0 : 0 ≤ i) (h1 : i < len)
    (c : Ops P n ops rest (put e d (.pointer (some (a.add (i.toNat * sz))))) H Φ) : Ops P n ops (⟨some d, .indexAddr st x y, ty, ps, af, none⟩ :: rest) e H Φ :=
  o_rfl hd (fun w => by simp only [execOp, hx, hy]; simp [Instr.indexAt, asIntOf, run_underlying f.und, f.size, h0, h1]) c
theorem o_index' {x y : Operand} {b o : Nat} {len cap st el sz bt : Nat} {z : List Value} {k : IntKind} {i : Int} [f : Slc P st el sz bt z] (hd : d < n) (hx : ev e x = .slice (some ⟨b, o, none⟩) len cap) (hy : ev e y = .int k i) (h0 : 0 ≤ i) (h1 : i < len)
    (c : Ops P n ops rest (put e d (.pointer (some ⟨b, o + i.toNat * sz, none⟩))) H Φ) : Ops P n ops (⟨some d, .indexAddr st x y, ty, ps, af, none⟩ :: rest) e H Φ := o_index hd hx hy h0 h1 (by rw [add_none]; exact c)
theorem o_indexA {x y : Operand} {b o : Nat} {len el sz at_ : Nat} {k : IntKind} {i : Int} [f : Arr P at_ len el sz] (hd : d < n) (hx : ev e x = .pointer (some ⟨b, o, none⟩)) (hy : ev e y = .int k i) (h0 : 0 ≤ i) (h1 : i < len)
    (c : Ops P n ops rest (put e d (.pointer (some ⟨b, o + i.toNat * sz, none⟩))) H Φ) : Ops P n ops (⟨some d, .indexAddr at_ x y, ty, ps, af, none⟩ :: rest) e H Φ :=
  o_rfl hd (fun w => by simp only [execOp, hx, hy]; simp [Instr.indexAt, asIntOf, run_underlying f.und, f.size, h0, h1, Instr.sureAddr, add_none]) c
theorem o_len {x : Operand} {a : Option Addr} {len cap st el sz bt : Nat} {z : List Value} {u : Array TypeId} [f : Slc P st el sz bt z] (hd : d < n) (hx : ev e x = .slice a len cap) (hu : u = #[st])
    (c : Ops P n ops rest (put e d (.int .i64 (len : Int))) H Φ) : Ops P n ops (⟨some d, .call ⟨.builtin .len, #[x], u⟩, ty, ps, af, none⟩ :: rest) e H Φ :=
  o_rfl hd (fun w => by subst hu; simp [execOp, resolve, invoke, builtin, hx, Builtin.len_, run_underlying f.und, goInt]) c
theorem o_min2 {x y : Operand} {k : IntKind} {a b : Int} {u : Array TypeId} (hd : d < n) (hx : ev e x = .int k a) (hy : ev e y = .int k b) (c : Ops P n ops rest (put e d (.int k (if b < a then b else a))) H Φ) :
    Ops P n ops (⟨some d, .call ⟨.builtin .min, #[x, y], u⟩, ty, ps, af, none⟩ :: rest) e H Φ :=
  o_rfl hd (fun w => by simp [execOp, resolve, invoke, builtin, hx, hy, Builtin.min_, Builtin.min2]) c
theorem o_max2 {x y : Operand} {k : IntKind} {a b : Int} {u : Array TypeId} (hd : d < n) (hx : ev e x = .int k a) (hy : ev e y = .int k b) (c : Ops P n ops rest (put e d (.int k (if b > a then b else a))) H Φ) :
    Ops P n ops (⟨some d, .call ⟨.builtin .max, #[x, y], u⟩, ty, ps, af, none⟩ :: rest) e H Φ :=
  o_rfl hd (fun w => by simp [execOp, resolve, invoke, builtin, hx, hy, Builtin.max_, Builtin.max2]) c
/-! ### Slices of slices: the bounds given -/
theorem o_slice {x : Operand} {a : Option Addr} {len cap st el sz bt : Nat} {z : List Value} {lo hi : Option Operand} {l h : Nat} [f : Slc P st el sz bt z] (hd : d < n) (hx : ev e x = .slice a len cap)
    (hh : match hi with | none => h = len | some y => ∃ k i, ev e y = .int k i ∧ 0 ≤ i ∧ i ≤ cap ∧ i.toNat = h) (hl : match lo with | none => l = 0 | some y => ∃ k i, ev e y = .int k i ∧ 0 ≤ i ∧ i ≤ h ∧ i.toNat = l)
    (c : Ops P n ops rest (put e d (.slice (if cap = l then a else a.map (·.add (l * sz))) (h - l) (cap - l))) H Φ) : Ops P n ops (⟨some d, .slice st x lo hi none, ty, ps, af, none⟩ :: rest) e H Φ :=
  o_rfl hd (fun w => by
    simp only [execOp, hx]
    have hb : (Instr.sliceBounds true len cap (lo.map (ev e)) (hi.map (ev e)) none).run P w = .ok (l, h, cap) w := by
      cases hi with
      | none =>
        subst hh
        cases lo with
        | none => subst hl; simp [Instr.sliceBounds]
        | some y => obtain ⟨k, i, h1, h2, h3, h4⟩ := hl; simp [Instr.sliceBounds, Instr.sliceBound, h1, asIntOf, h2, h3, h4]
      | some y0 =>
        obtain ⟨k0, i0, g1, g2, g3, g4⟩ := hh
        cases lo with
        | none => subst hl; simp [Instr.sliceBounds, Instr.sliceBound, g1, asIntOf, g2, g3, g4]
        | some y => obtain ⟨k, i, h1, h2, h3, h4⟩ := hl; simp [Instr.sliceBounds, Instr.sliceBound, g1, g2, g3, g4, h1, asIntOf, h2, h3, h4]
    simp [Instr.sliceAt, Instr.slice, run_underlying f.und, hb, f.size]) c
end Go.Proofs.YtcelailgedndnaaGreatS
namespace Go.Proofs.YtcelailgedndnaaGreatS
set_option linter.unusedSectionVars false
variable [DR]
open Go.RowKit
set_option linter.unusedVariables false
set_option linter.unusedSimpArgs false
variable {P : Program} {n : Nat} {ops : Array Oper} {rest : List Oper} {e : Env} {H : HP} {Φ : Post} {d : Nat} {ty : TypeId} {ps : String} {af : Array Edge}
/-! ### A block known whole -/
class HasL (H : HP) (b : Nat) (p : outParam Bool) (l : outParam (List Value)) (t : outParam TypeId) (fr : outParam (Nat × Nat)) (R : outParam HP) : Prop where eq : H = cl p b l t fr * R
instance (priority := 900) hasL_1 (p b l t fr) : HasL (cl p b l t fr) b p l t fr 1 := ⟨(sep_one _).symm⟩
instance (priority := 1000) hasL_h (p b l t fr R) : HasL (cl p b l t fr * R) b p l t fr R := ⟨rfl⟩
instance (priority := 500) hasL_t (A H p b l t fr R) [h : HasL H b p l t fr R] : HasL (A * H) b p l t fr (A * R) := ⟨by rw [h.eq, sep_left_comm]⟩
theorem Sat.heapCl {w0 w : World} {A : HP} {p b l t fr} (h : Sat w0 w (cl p b l t fr * A)) : w.heap[b]? = some (.cells l.toArray t fr) := h.blk
theorem cell_at {w : World} {b : Nat} {l : List Value} {t : TypeId} {fr : Nat × Nat} (h : w.heap[b]? = some (.cells l.toArray t fr)) (o : Nat) : w.cell? ⟨b, o, none⟩ = l[o]? := by
  simp [World.cell?, h]
theorem has_heap {w0 w : World} {F : HP} {p b l t fr R} [h : HasL H b p l t fr R] (s : Sat w0 w (H * F)) : w.heap[b]? = some (.cells l.toArray t fr) := by
  rw [h.eq, sep_assoc] at s; exact s.heapCl
def sub (l : List Value) (o k : Nat) : Option (List Value) := if o + k ≤ l.length then some ((l.drop o).take k) else none
theorem sub_len {l : List Value} {o k : Nat} {vs : List Value} (h : sub l o k = some vs) : vs.length = k ∧ ∀ j, j < k → vs[j]? = l[o + j]? := by
  unfold sub at h
  split at h
  · cases h
    refine ⟨by simp; omega, fun j hj => by simp [List.getElem?_take, hj]⟩
  · cases h
theorem v_load {a : Addr} {v : Value} {w : World} (h : w.cell? a = some v) : (load a).run P w = .ok v w := by simp [h]
theorem v_loadVar_s {t : TypeId} {z : Value} [c : Sc P t z] {a : Addr} {v : Value} {w : World} (h : w.cell? a = some v) : (loadVar t a).run P w = .ok v w := by
  simp [loadVar, c.agg, h]
theorem v_loadVar_a {t sz : Nat} {z : List Value} [c : Ag P t sz z] {a : Addr} {vs : List Value} {w : World} (hl : vs.length = sz) (h : ∀ j v, vs[j]? = some v → w.cell? (a.add j) = some v) : (loadVar t a).run P w = .ok (.agg vs.toArray) w := by
  have h1 := run_loadCells_list (P := P) w a vs h
  rw [hl] at h1
  simp [loadVar, c.agg, c.size, h1]
theorem o_load_s {t : TypeId} {z : Value} {x : Operand} {b o : Nat} {v : Value} {p l t' fr R} [c : Sc P t z] [hl : HasL H b p l t' fr R] (hd : d < n) (hx : ev e x = .pointer (some ⟨b, o, none⟩)) (hv : l[o]? = some v)
    (k : Ops P n ops rest (put e d v) H Φ) : Ops P n ops (⟨some d, .load t x, ty, ps, af, none⟩ :: rest) e H Φ :=
  ops_step rfl hd (T.ofV (v := Next.value v) (fun w0 w F s => by
    have hc := cell_at (has_heap (b := b) s) o
    rw [hv] at hc
    simp only [execOp, hx]
    simp [Instr.loadAt, Instr.sureAddr, v_loadVar_s hc]) k)
theorem o_load_a {t sz : Nat} {z : List Value} {x : Operand} {b o : Nat} {vs : List Value} {p l t' fr R} [c : Ag P t sz z] [hl : HasL H b p l t' fr R] (hd : d < n) (hx : ev e x = .pointer (some ⟨b, o, none⟩)) (hv : sub l o sz = some vs)
    (k : Ops P n ops rest (put e d (.agg vs.toArray)) H Φ) : Ops P n ops (⟨some d, .load t x, ty, ps, af, none⟩ :: rest) e H Φ :=
  ops_step rfl hd (T.ofV (v := Next.value (.agg vs.toArray)) (fun w0 w F s => by
    obtain ⟨h1, h2⟩ := sub_len hv
    have hc : ∀ j v, vs[j]? = some v → w.cell? ((⟨b, o, none⟩ : Addr).add j) = some v := fun j v hj => by
      have hlt : j < sz := by rw [← h1]; exact (List.getElem?_eq_some_iff.1 hj).1
      rw [add_none, cell_at (has_heap (b := b) s), ← h2 j hlt, hj]
    simp only [execOp, hx]
    simp [Instr.loadAt, Instr.sureAddr, v_loadVar_a h1 hc]) k)
/-- A list with some cells written over. -/
def spl : List Value → Nat → List Value → List Value
  | l, 0, [] => l
  | [], _, _ => []
  | _ :: l, 0, v :: vs => v :: spl l 0 vs
  | x :: l, o + 1, vs => x :: spl l o vs
theorem spl_eq : ∀ (l : List Value) (o : Nat) (vs : List Value), o + vs.length ≤ l.length → spl l o vs = l.take o ++ vs ++ l.drop (o + vs.length)
  | l, 0, [], _ => by cases l <;> simp [spl]
  | [], 0, v :: vs, h => by simp at h
  | [], o + 1, vs, h => by simp at h
  | x :: l, 0, v :: vs, h => by
    have := spl_eq l 0 vs (by simpa using h)
    simp [spl, this]
  | x :: l, o + 1, vs, h => by
    have := spl_eq l o vs (by simp at h; omega)
    simp [spl, this, Nat.add_right_comm o 1]
theorem spl_len (l : List Value) (o : Nat) (vs : List Value) (h : o + vs.length ≤ l.length) : (spl l o vs).length = l.length := by
  rw [spl_eq l o vs h]; simp; omega
theorem Sat.setRow {w0 w : World} {A : HP} {b : Nat} {l l' : List Value} {t : TypeId} (h : Sat w0 w (cl true b l t (0, 0) * A)) : Sat w0 (w.setRow b l'.toArray) (cl true b l' t (0, 0) * A) :=
  Sat.setBlock h rfl rfl rfl (by simp [World.setRow]) (setRow_heap w b _ _ _ _ h.heapCl) (fun c hc => setRow_other w b c _ hc)
theorem run_storeVar {t sz : Nat} {w : World} {b o : Nat} {l : List Value} {t' : TypeId} {v : Value} {vs : List Value} (hs : (sizeOf t).run P w = .ok sz w) (hc : v.cells = vs.toArray) (hl : vs.length = sz) (h1 : ∀ u ∈ vs, u.oneCell' = true)
    (hw : w.heap[b]? = some (.cells l.toArray t' (0, 0))) (hf : o + vs.length ≤ l.length) : (storeVar t ⟨b, o, none⟩ v).run P w = .ok () (w.setRow b (spl l o vs).toArray) := by
  have h2 := run_storeCells_at P b o t' vs 0 l.toArray w hw (by simpa using hf) h1
  simp only [Nat.add_zero] at h2
  simp [storeVar, hc, hs, hl, h2, spl_eq l o vs hf]
theorem o_store_s {t : TypeId} {z : Value} {x y : Operand} {b o : Nat} {v : Value} {l t' R} [c : Sc P t z] [hl : HasL H b true l t' (0, 0) R] (hx : ev e x = .pointer (some ⟨b, o, none⟩)) (hy : ev e y = v) (h1 : v.oneCell' = true) (hf : Nat.blt o l.length = true)
    (k : Ops P n ops rest e (cl true b (spl l o [v]) t' (0, 0) * R) Φ) : Ops P n ops (⟨none, .store t x y, ty, ps, af, none⟩ :: rest) e H Φ :=
  ops_step rfl trivial fun w0 w F s => by
    have hw := has_heap (b := b) s
    rw [hl.eq, sep_assoc] at s
    refine ⟨.skip, _, cl true b (spl l o [v]) t' (0, 0) * R, ?_, k, by rw [sep_assoc]; exact s.setRow⟩
    have hr := run_storeVar (P := P) (t := t) (v := v) (vs := [v]) (o := o) (c.size w) (by rw [oneCell_cells h1]) rfl (by simpa using h1) hw (by have := Nat.le_of_ble_eq_true hf; simpa using this)
    simp only [execOp, hx, hy]
    simp [Instr.storeAt, Instr.sureAddr, hr]
theorem o_store_a {t sz : Nat} {z : List Value} {x y : Operand} {b o : Nat} {vs : List Value} {l t' R} [c : Ag P t sz z] [hl : HasL H b true l t' (0, 0) R] (hx : ev e x = .pointer (some ⟨b, o, none⟩)) (hy : ev e y = .agg vs.toArray) (hs : vs.length = sz)
    (h1 : vs.all (·.oneCell') = true) (hf : Nat.ble (o + vs.length) l.length = true)
    (k : Ops P n ops rest e (cl true b (spl l o vs) t' (0, 0) * R) Φ) : Ops P n ops (⟨none, .store t x y, ty, ps, af, none⟩ :: rest) e H Φ :=
  ops_step rfl trivial fun w0 w F s => by
    have hw := has_heap (b := b) s
    rw [hl.eq, sep_assoc] at s
    refine ⟨.skip, _, cl true b (spl l o vs) t' (0, 0) * R, ?_, k, by rw [sep_assoc]; exact s.setRow⟩
    have hr := run_storeVar (P := P) (t := t) (v := .agg vs.toArray) (vs := vs) (o := o) (c.size w) rfl hs (by simpa using h1) hw (Nat.le_of_ble_eq_true hf)
    simp only [execOp, hx, hy]
    simp [Instr.storeAt, Instr.sureAddr, hr]
/-! ### New variables -/
theorem t_new {c : Array Value} {t : TypeId} {Ψ : Addr → HP → Prop} (k : ∀ b, Ψ ⟨b, 0, none⟩ (cl true b c.toList t (0, 0) * H)) : T P (newRow t c) H Ψ := fun w0 w F s => by
  refine ⟨⟨w.heap.size, 0, none⟩, { w with heap := w.heap.push (.cells c t) }, cl true w.heap.size c.toList t (0, 0) * H, rfl, k _, ?_⟩
  have := s.alloc (.cells c t)
  rw [sep_assoc]
  simpa [cl] using this
theorem o_alloc_s {t : TypeId} {z : Value} [c : Sc P t z] (hd : d < n) (k : ∀ b, Ops P n ops rest (put e d (.pointer (some ⟨b, 0, none⟩))) (cl true b [z] t (0, 0) * H) Φ) : Ops P n ops (⟨some d, .alloc t, ty, ps, af, none⟩ :: rest) e H Φ :=
  ops_step rfl hd (by
    show T P (Instr.alloc t true (.tuple #[]) >>= fun x => pure (Next.value x)) H _
    refine T.bind ?_
    refine T.bind (T.ofRun c.zero ?_)
    show T P ((newRow t z.cells >>= fun x => pure (Value.pointer (some x)))) H _
    rw [oneCell_cells c.one]
    exact T.bind (t_new fun b => T.pure (T.pure (k b))))
theorem o_alloc_a {t sz : Nat} {z : List Value} [c : Ag P t sz z] (hd : d < n) (k : ∀ b, Ops P n ops rest (put e d (.pointer (some ⟨b, 0, none⟩))) (cl true b z t (0, 0) * H) Φ) : Ops P n ops (⟨some d, .alloc t, ty, ps, af, none⟩ :: rest) e H Φ :=
  ops_step rfl hd (by
    show T P (Instr.alloc t true (.tuple #[]) >>= fun x => pure (Next.value x)) H _
    refine T.bind ?_
    refine T.bind (T.ofRun c.zero ?_)
    show T P ((newRow t z.toArray >>= fun x => pure (Value.pointer (some x)))) H _
    exact T.bind (t_new fun b => T.pure (T.pure (k b))))
theorem o_box {t : TypeId} {x : Operand} {v : Value} {l : List Value} (hd : d < n) (hx : ev e x = v) (hl : v.cells = l.toArray) (k : ∀ b, Ops P n ops rest (put e d (.pointer (some ⟨b, 0, none⟩))) (cl true b l t (0, 0) * H) Φ) :
    Ops P n ops (⟨some d, .box t x, ty, ps, af, none⟩ :: rest) e H Φ :=
  ops_step rfl hd (by
    show T P (Instr.box t (ev e x) >>= fun x => pure (Next.value x)) H _
    rw [hx]
    refine T.bind (T.bind ?_)
    unfold newVar
    rw [hl]
    exact t_new fun b => T.pure (T.pure (k b)))
/-! ### Rows that are read -/
theorem add_block (a : Addr) (j : Nat) : (a.add j).block = a.block := by unfold Addr.add; split <;> rfl
theorem add_add (a : Addr) (i j : Nat) : (a.add i).add j = a.add (i + j) := by
  unfold Addr.add
  by_cases hi : i = 0
  · subst hi; simp
  · by_cases hj : j = 0
    · subst hj; simp [hi]
    · have : i + j ≠ 0 := by omega
      simp [hi, hj, Nat.add_assoc]
def RdP (H : HP) (a : Option Addr) (l : List Value) : Prop := ∀ w0 w F, Sat w0 w (H * F) → ∀ j v, l[j]? = some v → ∃ ad, a = some ad ∧ w.cell? (ad.add j) = some v
class RdC (H : HP) (a : Option Addr) (l : outParam (List Value)) : Prop where rd : RdP H a l
def rs (a : Option Addr) (l : List Value) : HP := fun h => (∀ b x, h b = some x → x.1 = false) ∧ ∀ w : World, (∀ b p o, h b = some (p, o) → w.heap[b]? = some o) → ∀ j v, l[j]? = some v → ∃ ad, a = some ad ∧ w.cell? (ad.add j) = some v
theorem rd_rs (a l) : RdP (rs a l) a l := fun w0 w F s j v hj => by
  obtain ⟨r, hr, hm⟩ := s.dropR.mem
  exact hr.2 w hm j v hj
theorem RdP.left {A : HP} {a l} (h : RdP A a l) (B : HP) : RdP (A * B) a l := fun w0 w F s => h w0 w (B * F) (by rw [← sep_assoc]; exact s)
theorem RdP.right {B : HP} {a l} (h : RdP B a l) (A : HP) : RdP (A * B) a l := by rw [sep_comm]; exact h.left A
instance (priority := 1000) rdc_rs (a l R) : RdC (rs a l * R) a l := ⟨(rd_rs a l).left R⟩
instance (priority := 900) rdc_rs1 (a l) : RdC (rs a l) a l := ⟨rd_rs a l⟩
instance (priority := 500) rdc_t (A H a l) [h : RdC H a l] : RdC (A * H) a l := ⟨h.rd.right A⟩
instance (priority := 1100) rdc_nil (H) : RdC H none [] := ⟨fun _ _ _ _ j v hj => by simp at hj⟩
instance (priority := 400) rdc_add (H) (ad : Addr) (k l) [h : RdC H (some ad) l] : RdC H (some (ad.add k)) (l.drop k) := ⟨fun w0 w F s j v hj => by
  obtain ⟨ad', ha, hc⟩ := h.rd w0 w F s (k + j) v (by rw [← hj]; simp)
  cases ha
  exact ⟨_, rfl, by rw [add_add]; exact hc⟩⟩
theorem rd_cl (p b l t fr o) : RdP (cl p b l t fr) (some ⟨b, o, none⟩) (l.drop o) := fun w0 w F s j v hj =>
  ⟨_, rfl, by rw [add_none, cell_at s.heapCl, ← hj]; simp⟩
instance (priority := 1000) rdc_cl (p b l t fr R) : RdC (cl p b l t fr * R) (some ⟨b, 0, none⟩) l := ⟨(rd_cl p b l t fr 0).left R⟩
instance (priority := 900) rdc_cl1 (p b l t fr) : RdC (cl p b l t fr) (some ⟨b, 0, none⟩) l := ⟨rd_cl p b l t fr 0⟩
theorem rs_self (a l) : rs a l = rs a l * rs a l := by
  refine HP.ext fun h => ⟨fun k => ⟨h, h, fun b => ?_, k, k⟩, ?_⟩
  · cases hb : h b with
    | none => exact rfl
    | some x => exact ⟨k.1 b x hb, rfl, rfl⟩
  · rintro ⟨h1, h2, hj, k1, k2⟩
    refine ⟨fun b x hb => ?_, fun w hw j v hv => k1.2 w (fun b p o e => hw b p o ?_) j v hv⟩
    · have hx := hj b
      cases e1 : h1 b with
      | none => rw [e1] at hx; exact k2.1 b x (hx ▸ hb)
      | some y =>
        have hy := k1.1 b y e1
        rw [e1] at hx
        cases e2 : h2 b with
        | none => rw [e2] at hx; have : h b = some y := hx; rw [this] at hb; cases hb; exact hy
        | some z => rw [e2] at hx; have : h b = some y := hx.2.2; rw [this] at hb; cases hb; exact hy
    · have hx := hj b
      rw [e] at hx
      cases e2 : h2 b with
      | none => rw [e2] at hx; exact hx
      | some z => rw [e2] at hx; exact hx.2.2
theorem RdP.some {a l} (h : RdP H a l) (hne : 0 < l.length) {w0 w : World} {F : HP} (s : Sat w0 w (H * F)) : ∃ ad, a = some ad := by
  obtain ⟨ad, ha, _⟩ := h w0 w F s 0 _ (List.getElem?_eq_getElem hne)
  exact ⟨ad, ha⟩
/-- Where something is read, there is an address. -/
theorem Ops.rd_some {a l} [h : RdC H a l] {rest : List Oper} (hne : 0 < l.length) (k : ∀ ad, a = some ad → Ops P n ops rest e H Φ) : Ops P n ops rest e H Φ := fun x w0 w F r s => by
  obtain ⟨ad, ha⟩ := h.rd.some hne s
  exact k ad ha x w0 w F r s
theorem Ex.rd_some {a l} [h : RdC H a l] {c : Code} (hne : 0 < l.length) (k : ∀ ad, a = some ad → Ex P n c e H Φ) : Ex P n c e H Φ := fun x w0 w F r s => by
  obtain ⟨ad, ha⟩ := h.rd.some hne s
  exact k ad ha x w0 w F r s
theorem o_load_r {t : TypeId} {z : Value} {x : Operand} {ad : Addr} {j : Nat} {v : Value} {l} [c : Sc P t z] [hr : RdC H (some ad) l] (hd : d < n) (hx : ev e x = .pointer (some (ad.add j))) (hv : l[j]? = some v)
    (k : Ops P n ops rest (put e d v) H Φ) : Ops P n ops (⟨some d, .load t x, ty, ps, af, none⟩ :: rest) e H Φ :=
  ops_step rfl hd (T.ofV (v := Next.value v) (fun w0 w F s => by
    obtain ⟨ad', ha, hc⟩ := hr.rd w0 w F s j v hv
    cases ha
    simp only [execOp, hx]
    simp [Instr.loadAt, Instr.sureAddr, v_loadVar_s hc]) k)
theorem o_load_ra {t sz : Nat} {z : List Value} {x : Operand} {ad : Addr} {j : Nat} {vs : List Value} {l} [c : Ag P t sz z] [hr : RdC H (some ad) l] (hd : d < n) (hx : ev e x = .pointer (some (ad.add j))) (hv : sub l j sz = some vs)
    (k : Ops P n ops rest (put e d (.agg vs.toArray)) H Φ) : Ops P n ops (⟨some d, .load t x, ty, ps, af, none⟩ :: rest) e H Φ :=
  ops_step rfl hd (T.ofV (v := Next.value (.agg vs.toArray)) (fun w0 w F s => by
    obtain ⟨h1, h2⟩ := sub_len hv
    have hc : ∀ i v, vs[i]? = some v → w.cell? ((ad.add j).add i) = some v := fun i v hi => by
      have hlt : i < sz := by rw [← h1]; exact (List.getElem?_eq_some_iff.1 hi).1
      obtain ⟨ad', ha, hc⟩ := hr.rd w0 w F s (j + i) v (by rw [← h2 i hlt, hi])
      cases ha
      rw [add_add]; exact hc
    simp only [execOp, hx]
    simp [Instr.loadAt, Instr.sureAddr, v_loadVar_a h1 hc]) k)
/-! ### Rows that are owned -/
def ow (el sz : Nat) (a : Option Addr) (m cap : Nat) (l : List Value) : HP := fun h => l.length = m * sz ∧ m ≤ cap ∧ cap ≤ maxLen ∧
  ((cap = 0 ∧ ∀ b, h b = none) ∨ ∃ g cur, a = some ⟨g, 0, none⟩ ∧ cur.length = cap * sz ∧ cur.take (m * sz) = l ∧ cl true g cur el (0, 0) h)
class HasO (H : HP) (el sz : Nat) (a : Option Addr) (m cap : Nat) (l : outParam (List Value)) (R : outParam HP) : Prop where ent : Ent H (ow el sz a m cap l * R)
instance (priority := 1000) hasO_h (el sz a m cap l R) : HasO (ow el sz a m cap l * R) el sz a m cap l R := ⟨Ent.refl _⟩
instance (priority := 900) hasO_1 (el sz a m cap l) : HasO (ow el sz a m cap l) el sz a m cap l 1 := ⟨Ent.ofEq (sep_one _).symm⟩
instance (priority := 500) hasO_t (A H el sz a m cap l R) [h : HasO H el sz a m cap l R] : HasO (A * H) el sz a m cap l (A * R) := ⟨by
  have := h.ent.frameL A
  rw [sep_left_comm] at this
  exact this⟩
theorem ow_nil (el sz : Nat) (a : Option Addr) (A : HP) : Ent A (ow el sz a 0 0 [] * A) := fun w0 w F s => by
  obtain ⟨r, hr, hm⟩ := s.mem
  rw [sep_assoc]
  exact ⟨s.os, s.tape, s.output, s.size, r, ⟨fun _ => none, r, fun _ => rfl, ⟨by simp, Nat.le_refl _, Nat.zero_le _, .inl ⟨rfl, fun _ => rfl⟩⟩, hr⟩, hm⟩
instance (priority := 1100) hasO_nil (H el sz) : HasO H el sz none 0 0 [] H := ⟨ow_nil el sz none H⟩
theorem rd_ow (el sz a m cap l) : RdP (ow el sz a m cap l) a l := fun w0 w F s j v hj => by
  obtain ⟨r, hr, hm⟩ := s.dropR.mem
  obtain ⟨h1, h2, h3, h4 | ⟨g, cur, ha, hc, ht, hb⟩⟩ := hr
  · have hm0 : m = 0 := by omega
    have : l = [] := List.eq_nil_of_length_eq_zero (by rw [h1, hm0]; simp)
    rw [this] at hj; simp at hj
  · refine ⟨_, ha, ?_⟩
    have hb' : r = fun c => if c = g then some (true, .cells cur.toArray el (0, 0)) else none := hb
    have := hm g true (.cells cur.toArray el (0, 0)) (by rw [hb']; simp)
    rw [add_none, cell_at this, Nat.zero_add]
    rw [← ht, List.getElem?_take] at hj
    split at hj
    · exact hj
    · cases hj
instance (priority := 1000) rdc_ow (el sz a m cap l R) : RdC (ow el sz a m cap l * R) a l := ⟨(rd_ow el sz a m cap l).left R⟩
instance (priority := 900) rdc_ow1 (el sz a m cap l) : RdC (ow el sz a m cap l) a l := ⟨rd_ow el sz a m cap l⟩
theorem ow_cases {w0 w : World} {F : HP} {el sz a m cap l} (s : Sat w0 w (ow el sz a m cap l * F)) :
    l.length = m * sz ∧ m ≤ cap ∧ cap ≤ maxLen ∧ ((cap = 0 ∧ Sat w0 w F) ∨ ∃ g cur, a = some ⟨g, 0, none⟩ ∧ cur.length = cap * sz ∧ cur.take (m * sz) = l ∧ Sat w0 w (cl true g cur el (0, 0) * F)) := by
  have hd := s.drop
  obtain ⟨r, ⟨r1, r2, hj, ⟨h1, h2, h3, h4⟩, hf⟩, hm⟩ := s.mem
  refine ⟨h1, h2, h3, ?_⟩
  rcases h4 with h4 | ⟨g, cur, ha, hc, ht, hb⟩
  · exact .inl ⟨h4.1, hd⟩
  · exact .inr ⟨g, cur, ha, hc, ht, s.os, s.tape, s.output, s.size, r, ⟨r1, r2, hj, hb, hf⟩, hm⟩
theorem ow_mk {w0 w : World} {F : HP} {el sz m cap : Nat} {l : List Value} {g : Nat} {cur : List Value} (h1 : l.length = m * sz) (h2 : m ≤ cap) (h3 : cap ≤ maxLen) (hc : cur.length = cap * sz) (ht : cur.take (m * sz) = l)
    (s : Sat w0 w (cl true g cur el (0, 0) * F)) : Sat w0 w (ow el sz (some ⟨g, 0, none⟩) m cap l * F) := by
  obtain ⟨r, ⟨r1, r2, hj, hb, hf⟩, hm⟩ := s.mem
  exact ⟨s.os, s.tape, s.output, s.size, r, ⟨r1, r2, hj, ⟨h1, h2, h3, .inr ⟨g, cur, rfl, hc, ht, hb⟩⟩, hf⟩, hm⟩
theorem ow_facts {el sz a m cap l R} [h : HasO H el sz a m cap l R] {rest : List Oper} (k : l.length = m * sz → m ≤ cap → cap ≤ maxLen → Ops P n ops rest e H Φ) : Ops P n ops rest e H Φ := fun x w0 w F r s => by
  obtain ⟨h1, h2, h3, _⟩ := ow_cases (by have := h.ent _ _ _ s; rw [sep_assoc] at this; exact this)
  exact k h1 h2 h3 x w0 w F r s
theorem ow_len (el sz a m cap l) (R : HP) {w0 w : World} {F : HP} (s : Sat w0 w (ow el sz a m cap l * R * F)) : l.length = m * sz := by
  rw [sep_assoc] at s; exact (ow_cases s).1
theorem append_spec {st el sz bt : Nat} {z : List Value} [f : Slc P st el sz bt z] {a b : Option Addr} {m cap k ck : Nat} {l news : List Value} {R : HP} {ty : TypeId} (hrd : RdP R b news) (hl : news.length = k * sz) (h1 : ∀ u ∈ news, u.oneCell' = true)
    (hb : (m + k) * bt ≤ 140737488355328) (hk : m + k ≤ maxLen) {w0 w : World} {F : HP} (s : Sat w0 w (ow el sz a m cap l * (R * F))) :
    ∃ a' cap' w', (Builtin.append_ #[st, st] ty #[.slice a m cap, .slice b k ck]).run P w = .ok (.slice a' (m + k) cap') w' ∧ Sat w0 w' (ow el sz a' (m + k) cap' (l ++ news) * (R * F)) := by
  have sR := s.drop
  have hpos := f.pos
  obtain ⟨i, zv, hi, hbt, hsz, hz, hzc⟩ := f.info
  obtain ⟨hlen, hmc, hcm, hcase⟩ := ow_cases s
  have hlenA : (l ++ news).length = (m + k) * sz := by rw [List.length_append, hlen, hl, Nat.add_mul]
  have hm63 : m + k ≤ 9223372036854775807 := by simp only [maxLen] at hk; omega
  by_cases hk0 : k = 0
  · -- nothing is appended
    subst hk0
    have hn : news = [] := List.eq_nil_of_length_eq_zero (by simpa using hl)
    subst hn
    refine ⟨a, cap, w, ?_, by simpa using s⟩
    have hroom : m + 0 ≤ cap := by omega
    cases b with
    | none =>
      cases a with
      | none => simp [Builtin.append_, run_underlying f.und, f.size, Builtin.lenOf, hmc, Builtin.firstCells]
      | some a => simp [Builtin.append_, run_underlying f.und, f.size, Builtin.lenOf, hmc, Builtin.firstCells, storeCells]
    | some b =>
      cases a with
      | none => simp [Builtin.append_, run_underlying f.und, f.size, Builtin.lenOf, hmc, Builtin.firstCells, loadCells, loadCellsFrom]
      | some a => simp [Builtin.append_, run_underlying f.und, f.size, Builtin.lenOf, hmc, Builtin.firstCells, loadCells, loadCellsFrom, storeCells]
  · have hne : 0 < news.length := by rw [hl]; exact Nat.mul_pos (by omega) hpos
    obtain ⟨bd, rfl⟩ := (hrd.some hne sR)
    have hnews : ∀ j v, news[j]? = some v → w.cell? (bd.add j) = some v := fun j v hj => by
      obtain ⟨ad, ha, hc⟩ := hrd w0 w F sR j v hj
      cases ha; exact hc
    have hl' : news.length = k * i.size := by rw [hsz]; exact hl
    have grown : ∀ old, old < m + k →
        Sat w0 (w.drew.alloc (.cells (l.toArray ++ news.toArray ++ Builtin.zeroCells zv.cells (grownCap w (m + k) old el - (m + k))) el))
          (ow el sz (some ⟨w.heap.size, 0, none⟩) (m + k) (grownCap w (m + k) old el) (l ++ news) * (R * F)) := fun old ho => by
      have hge := grownCap_ge w (m + k) old el
      have hcm' := grownCap_le_maxLen w (m + k) old el hk
      have hzs : zv.cells.size = sz := by rw [hzc]; simpa using f.zsz
      have s1 := sR.drew.alloc (.cells (l.toArray ++ news.toArray ++ Builtin.zeroCells zv.cells (grownCap w (m + k) old el - (m + k))) el)
      refine ow_mk (cur := (l.toArray ++ news.toArray ++ Builtin.zeroCells zv.cells (grownCap w (m + k) old el - (m + k))).toList) hlenA hge hcm' ?_ ?_ ?_
      · simp only [Array.length_toList, Array.size_append, List.size_toArray, size_zeroCells, hzs, hlen, hl, ← Nat.add_mul]
        congr 1
        omega
      · simp only [Array.toList_append]
        rw [← hlenA]
        exact List.take_left
      · unfold cl; rw [Array.toArray_toList]; exact s1
    rcases hcase with ⟨hc0, _⟩ | ⟨g, cur, rfl, hcur, htake, sg⟩
    · have hm0 : m = 0 := by omega
      subst hm0; subst hc0
      have hl0 : l = [] := List.eq_nil_of_length_eq_zero (by simpa using hlen)
      subst hl0
      cases a with
      | none =>
        have hr := run_append_nil (P := P) w st ty el i zv f.und hi hz bd k ck news hl' hnews (by omega) (by omega) (by rw [hbt]; simp only [Nat.zero_add] at hb; omega)
        have hg := grown 0 (by omega)
        simp only [Nat.zero_add, List.nil_append, Array.empty_append] at hg hr ⊢
        exact ⟨_, _, _, hr, hg⟩
      | some a0 =>
        have hr := run_append_grow (P := P) w st ty el i zv f.und hi hz a0 0 0 [] (by simp) (by simp) bd k ck news hl' hnews (by omega) (by omega) (growslice_fits (by omega) (by rw [hbt]; exact hb))
        exact ⟨_, _, _, hr, grown 0 (by omega)⟩
    · by_cases hroom : m + k ≤ cap
      · have hg0 : w.heap[g]? = some (.cells cur.toArray el (0, 0)) := sg.heapCl
        have hfit : m * i.size + news.length ≤ cur.toArray.size := by
          rw [hsz, hl]; simp only [List.size_toArray]; rw [hcur, ← Nat.add_mul]; exact Nat.mul_le_mul_right _ hroom
        have hr := run_append_room (P := P) w st ty el i f.und hi g m cap cur.toArray hg0 bd k ck news hl' hnews h1 hroom hfit
        refine ⟨_, _, _, hr, ow_mk hlenA hroom hcm ?_ ?_ (sg.setRow (l' := cur.take (m * i.size) ++ news ++ cur.drop (m * i.size + news.length)))⟩
        · simp only [List.length_append, List.length_take, List.length_drop]
          simp only [List.size_toArray] at hfit
          omega
        · rw [hsz, htake, ← hlenA]
          exact List.take_left
      · have holds : ∀ j u, l[j]? = some u → w.cell? ((⟨g, 0, none⟩ : Addr).add j) = some u := fun j u hj => by
          rw [add_none, cell_at sg.heapCl, Nat.zero_add]
          rw [← htake, List.getElem?_take] at hj
          split at hj
          · exact hj
          · cases hj
        have hr := run_append_grow (P := P) w st ty el i zv f.und hi hz ⟨g, 0, none⟩ m cap l (by rw [hsz]; exact hlen) holds bd k ck news hl' hnews (by omega) (by omega) (growslice_fits (by omega) (by rw [hbt]; exact hb))
        exact ⟨_, _, _, hr, grown cap (by omega)⟩
theorem o_append {x y : Operand} {st el sz bt : Nat} {z : List Value} [f : Slc P st el sz bt z] {a b : Option Addr} {m cap k ck : Nat} {l news : List Value} {R : HP} {u : Array TypeId} (hd : d < n) (hx : ev e x = .slice a m cap) (hy : ev e y = .slice b k ck) (hu : u = #[st, st])
    [ho : HasO H el sz a m cap l R] [hrd : RdC R b news] (hl : news.length = k * sz) (h1 : ∀ v ∈ news, v.oneCell' = true) (hb : (m + k) * bt ≤ 140737488355328) (hk : m + k ≤ maxLen)
    (c : ∀ a' cap', Ops P n ops rest (put e d (.slice a' (m + k) cap')) (ow el sz a' (m + k) cap' (l ++ news) * R) Φ) : Ops P n ops (⟨some d, .call ⟨.builtin .append, #[x, y], u⟩, ty, ps, af, none⟩ :: rest) e H Φ :=
  ops_step rfl hd fun w0 w F s => by
    subst hu
    have s1 := ho.ent _ _ _ s
    rw [sep_assoc] at s1
    obtain ⟨a', cap', w', hr, s'⟩ := append_spec (P := P) (st := st) (ck := ck) (ty := ty) hrd.rd hl h1 hb hk s1
    refine ⟨Next.value (.slice a' (m + k) cap'), w', ow el sz a' (m + k) cap' (l ++ news) * R, ?_, c a' cap', by rw [sep_assoc]; exact s'⟩
    simp [execOp, resolve, invoke, builtin, hx, hy, hr]
end Go.Proofs.YtcelailgedndnaaGreatS
namespace Go.Proofs.YtcelailgedndnaaGreatS
set_option linter.unusedSectionVars false
variable [DR]
open Go.RowKit
set_option linter.unusedVariables false
set_option linter.unusedSimpArgs false
variable {P : Program} {n : Nat} {ops : Array Oper} {rest : List Oper} {e : Env} {H : HP} {Φ : Post} {d : Nat} {ty : TypeId} {ps : String} {af : Array Edge}
theorem o_mv {x : Operand} {v : Value} (hd : d < n) (hx : ev e x = v) (k : Ops P n ops rest (put e d v) H Φ) : Ops P n ops (⟨some d, .move x, ty, ps, af, none⟩ :: rest) e H Φ := o_move hd (by rw [hx]; exact k)
theorem o_as {x : Operand} {v : Value} (hd : d < n) (hx : ev e x = v) (k : Ops P n ops rest (put e d v) H Φ) : Ops P n ops (⟨some d, .assign x, ty, ps, af, none⟩ :: rest) e H Φ := o_assign hd (by rw [hx]; exact k)
/-! ### Guards -/
theorem put_same {t : Nat} {v : Value} (h : e t = v) : put e t v = e := funext fun u => by
  unfold put
  cases hb : Nat.beq u t with
  | true => rw [cond_true, Nat.eq_of_beq_eq_true hb, h]
  | false => rfl
theorem g_yes {l : List Oper} {dd : Option Nat} {op : Op} {j t : Nat} {bw : Bool} (hj : (l[j]?).bind (·.dst) = some t) (hn : t < n) (hb : e t = .bool bw) (h : Ops P n l.toArray (⟨dd, op, ty, ps, af, none⟩ :: rest) e H Φ) :
    Ops P n l.toArray (⟨dd, op, ty, ps, af, some (j, bw)⟩ :: rest) e H Φ := ops_wanted rfl hj hn hb h
theorem g_no {l : List Oper} {op : Op} {j t : Nat} {bw : Bool} (hj : (l[j]?).bind (·.dst) = some t) (hn : t < n) (hb : e t = .bool (!bw)) (hd : d < n) (h : Ops P n l.toArray rest (put e d undef) H Φ) :
    Ops P n l.toArray (⟨some d, op, ty, ps, af, some (j, bw)⟩ :: rest) e H Φ := ops_unwanted rfl hj hn hb (by cases bw <;> rfl) rfl hd h
theorem g_undef {l : List Oper} {op : Op} {j t : Nat} {bw : Bool} (hj : (l[j]?).bind (·.dst) = some t) (hb : e t = undef) (hd : d < n) (h : Ops P n l.toArray rest (put e d undef) H Φ) :
    Ops P n l.toArray (⟨some d, op, ty, ps, af, some (j, bw)⟩ :: rest) e H Φ := fun a w0 w F r s => by
  have hy : Region.wanted ⟨some d, op, ty, ps, af, some (j, bw)⟩ (yielded l.toArray a.tmps) = false := by
    unfold Region.wanted yielded
    have hv := r.val t
    rw [hb] at hv
    simp only [List.getElem?_toArray, hj, Option.bind_some]
    cases h2 : a.tmps[t]? with
    | none => rfl
    | some v =>
      have : v = undef := by simpa [h2] using hv
      subst this; rfl
  unfold wpList
  rw [if_neg (by rw [hy]; simp)]
  exact h _ w0 w F (r.put hd undef) s
theorem g_yesT {l : List Oper} {dd : Option Nat} {op : Op} {j t : Nat} {b : Bool} (hj : (l[j]?).bind (·.dst) = some t) (hn : t < n) (hb : e t = .bool b) (hh : b = true) (h : Ops P n l.toArray (⟨dd, op, ty, ps, af, none⟩ :: rest) (put e t (.bool true)) H Φ) :
    Ops P n l.toArray (⟨dd, op, ty, ps, af, some (j, true)⟩ :: rest) e H Φ := by subst hh; rw [put_same hb] at h; exact g_yes hj hn hb h
theorem g_yesF {l : List Oper} {dd : Option Nat} {op : Op} {j t : Nat} {b : Bool} (hj : (l[j]?).bind (·.dst) = some t) (hn : t < n) (hb : e t = .bool b) (hh : b = false) (h : Ops P n l.toArray (⟨dd, op, ty, ps, af, none⟩ :: rest) (put e t (.bool false)) H Φ) :
    Ops P n l.toArray (⟨dd, op, ty, ps, af, some (j, false)⟩ :: rest) e H Φ := by subst hh; rw [put_same hb] at h; exact g_yes hj hn hb h
theorem g_noT {l : List Oper} {op : Op} {j t : Nat} {b : Bool} (hj : (l[j]?).bind (·.dst) = some t) (hn : t < n) (hb : e t = .bool b) (hh : b = true) (hd : d < n) (h : Ops P n l.toArray rest (put (put e t (.bool true)) d undef) H Φ) :
    Ops P n l.toArray (⟨some d, op, ty, ps, af, some (j, false)⟩ :: rest) e H Φ := by subst hh; rw [put_same hb] at h; exact g_no hj hn hb hd h
theorem g_noF {l : List Oper} {op : Op} {j t : Nat} {b : Bool} (hj : (l[j]?).bind (·.dst) = some t) (hn : t < n) (hb : e t = .bool b) (hh : b = false) (hd : d < n) (h : Ops P n l.toArray rest (put (put e t (.bool false)) d undef) H Φ) :
    Ops P n l.toArray (⟨some d, op, ty, ps, af, some (j, true)⟩ :: rest) e H Φ := by subst hh; rw [put_same hb] at h; exact g_no hj hn hb hd h
theorem g_split {l : List Oper} {op : Op} {j t : Nat} {bw b : Bool} (hj : (l[j]?).bind (·.dst) = some t) (hn : t < n) (hb : e t = .bool b) (hd : d < n)
    (h1 : b = bw → Ops P n l.toArray (⟨some d, op, ty, ps, af, none⟩ :: rest) (put e t (.bool bw)) H Φ) (h2 : b = !bw → Ops P n l.toArray rest (put (put e t (.bool !bw)) d undef) H Φ) :
    Ops P n l.toArray (⟨some d, op, ty, ps, af, some (j, bw)⟩ :: rest) e H Φ := by
  by_cases h : b = bw
  · subst h
    have := h1 rfl
    rw [put_same hb] at this
    exact g_yes hj hn hb this
  · have h' : b = !bw := by cases b <;> cases bw <;> simp_all
    subst h'
    have := h2 rfl
    rw [put_same hb] at this
    exact g_no hj hn hb hd this
theorem o_pick_t {c x y : Operand} {v : Value} (hd : d < n) (hc : ev e c = .bool true) (hx : ev e x = v) (k : Ops P n ops rest (put e d v) H Φ) : Ops P n ops (⟨some d, .pick c x y, ty, ps, af, none⟩ :: rest) e H Φ :=
  o_rfl hd (fun w => by simp only [execOp, hc, hx]; rfl) k
theorem o_pick_f {c x y : Operand} {v : Value} (hd : d < n) (hc : ev e c = .bool false) (hx : ev e y = v) (k : Ops P n ops rest (put e d v) H Φ) : Ops P n ops (⟨some d, .pick c x y, ty, ps, af, none⟩ :: rest) e H Φ :=
  o_rfl hd (fun w => by simp only [execOp, hc, hx]; rfl) k
theorem ex_split {c : Nat} {t : Bool} {c1 c2 : Code} (ho : e c = .bool t) (h1 : t = true → Ex P n c1 (put e c (.bool true)) H Φ) (h2 : t = false → Ex P n c2 (put e c (.bool false)) H Φ) : Ex P n (.cond (.tmp c) c1 c2) e H Φ :=
  ex_cond ho (fun h => by have := h1 h; rw [put_same (by rw [ho, h])] at this; exact this) (fun h => by have := h2 h; rw [put_same (by rw [ho, h])] at this; exact this)
/-! ### Results -/
def resv (e : Env) : ResultVar → Sem Value
  | .tmp t => Pure.pure (e t)
  | .cell a t => do loadVar t (← asAddr (e a))
class RV (P : Program) (e : Env) (H : HP) (r : ResultVar) (v : Value) : Prop where v : V P (resv e r) H v
theorem rv_tmp {t : Nat} {v : Value} (h : e t = v) : V P (resv e (.tmp t)) H v := h ▸ V.pure _
theorem rv_cell_a {a t sz : Nat} {z vs l : List Value} {b o : Nat} {p t' fr R} [c : Ag P t sz z] (ha : e a = .pointer (some ⟨b, o, none⟩)) [hl : HasL H b p l t' fr R] (hv : sub l o sz = some vs) : V P (resv e (.cell a t)) H (.agg vs.toArray) := fun w0 w F s => by
  obtain ⟨h1, h2⟩ := sub_len hv
  have hc : ∀ j v, vs[j]? = some v → w.cell? ((⟨b, o, none⟩ : Addr).add j) = some v := fun j v hj => by
    have hlt : j < sz := by rw [← h1]; exact (List.getElem?_eq_some_iff.1 hj).1
    rw [add_none, cell_at (has_heap (b := b) s), ← h2 j hlt, hj]
  simp [resv, ha, asAddr, v_loadVar_a h1 hc]
theorem rv_cell_s {a t : Nat} {z v : Value} {l : List Value} {b o : Nat} {p t' fr R} [c : Sc P t z] (ha : e a = .pointer (some ⟨b, o, none⟩)) [hl : HasL H b p l t' fr R] (hv : l[o]? = some v) : V P (resv e (.cell a t)) H v := fun w0 w F s => by
  have hc := cell_at (has_heap (b := b) s) o
  rw [hv] at hc
  simp [resv, ha, asAddr, v_loadVar_s hc]
theorem resl_list {fn : Func} {l : List ResultVar} (h : fn.results = l.toArray) : resl fn e = (do
    let vs ← l.toArray.mapM (resv e)
    pure (if h : vs.size = 1 then vs[0] else .tuple vs)) := by
  unfold resl; rw [h]; rfl
theorem resl0 {fn : Func} (h : fn.results = #[]) : V P (resl fn e) H (.tuple #[]) := V.ofRun fun w => by
  rw [resl_list (l := []) h]; simp
theorem resl1 {fn : Func} {r : ResultVar} {v : Value} (h : fn.results = #[r]) (hv : V P (resv e r) H v) : V P (resl fn e) H v := fun w0 w F s => by
  rw [resl_list (l := [r]) h]; simp [hv w0 w F s]
theorem resl2 {fn : Func} {r q : ResultVar} {v u : Value} (h : fn.results = #[r, q]) (hv : V P (resv e r) H v) (hu : V P (resv e q) H u) : V P (resl fn e) H (.tuple #[v, u]) := fun w0 w F s => by
  rw [resl_list (l := [r, q]) h]; simp [hv w0 w F s, hu w0 w F s]
theorem resl3 {fn : Func} {r q p : ResultVar} {v u x : Value} (h : fn.results = #[r, q, p]) (hv : V P (resv e r) H v) (hu : V P (resv e q) H u) (hx : V P (resv e p) H x) : V P (resl fn e) H (.tuple #[v, u, x]) := fun w0 w F s => by
  rw [resl_list (l := [r, q, p]) h]; simp [hv w0 w F s, hu w0 w F s, hx w0 w F s]
/-! ### Ends -/
theorem ent_take {A R : HP} [h : Take A H R] : Ent H A := by rw [h.eq]; exact Ent.dropR _ _
theorem ent_cl {p : Bool} {b : Nat} {l l' : List Value} {t : TypeId} {fr : Nat × Nat} {R : HP} (h : l = l') : Ent (cl p b l t fr * R) (cl p b l' t fr) := h ▸ Ent.dropR _ _
theorem ent_cl' {p : Bool} {b : Nat} {l l' : List Value} {t : TypeId} {fr : Nat × Nat} {R : HP} (h : l = l') : Ent (cl p b l t fr * R) (cl p b l' t fr * R) := h ▸ Ent.refl _
def ints (k : IntKind) (l : List Int) : List Value := l.map (Value.int k)
theorem ints_get {k : IntKind} {l : List Int} {i : Nat} (h : i < l.length) : (ints k l)[i]? = some (.int k l[i]) := by simp [ints, h]
theorem ints_len {k : IntKind} {l : List Int} : (ints k l).length = l.length := by simp [ints]
theorem ints_one {k : IntKind} {l : List Int} : ∀ u ∈ ints k l, u.oneCell' = true := by simp [ints, Value.oneCell']
theorem fin {x : Exit} {fn : Func} {X : Type} {val : X → Value} {pr : X → Prop} {res : X → HP} (hx : x = .normal ∨ x = .ret) (y : X) (h1 : V P (resl fn e) H (val y)) (h2 : pr y) (h3 : Ent H (res y)) :
    (x = .normal ∨ x = .ret) ∧ ∃ y, V P (resl fn e) H (val y) ∧ pr y ∧ Ent H (res y) := ⟨hx, y, h1, h2, h3⟩
/-! ### A call, its memory found -/
theorem o_call {f : FuncId} {l : List Operand} {ats : Array TypeId} {vs : List Value} {dd : Option Nat} {cf : Operand}
    {X : Type} {val : X → Value} {pr : X → Prop} {res : X → HP} {Hp Hf : HP} [g : Goes P f] (hs : Spec P f vs Hp val pr res) [ht : Take Hp H Hf] (hd : dOk n dd) (hcf : ev e cf = .func (.func f) #[] #[]) (hv : l.map (ev e) = vs)
    (k : ∀ x, pr x → Ops P n ops rest (putO e dd (val x)) (res x * Hf) Φ) :
    Ops P n ops (⟨dd, .call { callee := .value cf, args := l.toArray, argTypes := ats }, ty, ps, af, none⟩ :: rest) e H Φ := ops_call hd hcf hv hs ht.eq k
/-- The same at one block. -/
theorem o_callB {f : FuncId} {l : List Operand} {ats : Array TypeId} {vs : List Value} {dd : Option Nat} {cf : Operand} {b : Nat} {cs : List Value} {t : TypeId} {fr : Nat × Nat} {p : Bool}
    {X : Type} {val : X → Value} {pr : X → Prop} {res : X → HP} {Hf : HP} [g : Goes P f] (hd : dOk n dd) (hcf : ev e cf = .func (.func f) #[] #[]) (hv : l.map (ev e) = vs) (hs : Spec P f vs (cl p b cs t fr) val pr res) [ht : HasL H b p cs t fr Hf]
    (k : ∀ x, pr x → Ops P n ops rest (putO e dd (val x)) (res x * Hf) Φ) :
    Ops P n ops (⟨dd, .call { callee := .value cf, args := l.toArray, argTypes := ats }, ty, ps, af, none⟩ :: rest) e H Φ := ops_call hd hcf hv hs ht.eq k
/-- The same where the contract speaks of one block and of all that stands beside it. -/
theorem o_callBR {f : FuncId} {l : List Operand} {ats : Array TypeId} {vs : List Value} {dd : Option Nat} {cf : Operand} {b o : Nat} {cs : List Value} {t : TypeId} {fr : Nat × Nat} {p : Bool}
    {X : Type} {val : X → Value} {pr : X → Prop} {res : X → HP} {R : HP} [g : Goes P f] (hd : dOk n dd) (hcf : ev e cf = .func (.func f) #[] #[]) (hv : l.map (ev e) = vs) (hb : vs[0]? = some (.pointer (some ⟨b, o, none⟩))) [ht : HasL H b p cs t fr R]
    (hs : Spec P f vs (cl p b cs t fr * R) val pr res) (k : ∀ x, pr x → Ops P n ops rest (putO e dd (val x)) (res x) Φ) :
    Ops P n ops (⟨dd, .call { callee := .value cf, args := l.toArray, argTypes := ats }, ty, ps, af, none⟩ :: rest) e H Φ := ops_call (Hp := cl p b cs t fr * R) (Hf := 1) hd hcf hv hs (by rw [sep_one]; exact ht.eq) (fun x hx => by rw [sep_one]; exact k x hx)
/-- The same where the contract speaks of all the memory that there is. -/
theorem o_callH {f : FuncId} {l : List Operand} {ats : Array TypeId} {vs : List Value} {dd : Option Nat} {cf : Operand}
    {X : Type} {val : X → Value} {pr : X → Prop} {res : X → HP} [g : Goes P f] (hs : Spec P f vs H val pr res) (hd : dOk n dd) (hcf : ev e cf = .func (.func f) #[] #[]) (hv : l.map (ev e) = vs)
    (k : ∀ x, pr x → Ops P n ops rest (putO e dd (val x)) (res x) Φ) :
    Ops P n ops (⟨dd, .call { callee := .value cf, args := l.toArray, argTypes := ats }, ty, ps, af, none⟩ :: rest) e H Φ := ops_call hd hcf hv hs (sep_one H).symm (fun x hx => by rw [sep_one]; exact k x hx)
/-! ### Struct literals -/
class Lay (P : Program) (t : TypeId) (pl : outParam (List (Nat × Nat))) (z : outParam (List Value)) : Prop where
  zero : ∀ w, (zeroValue t).run P w = .ok (.agg z.toArray) w
  lay : ∃ fs, P.underlying t = some (.struct fs) ∧ ∀ w, (fs.mapM fun (f : Field) => do pure (f.offset, ← sizeOf f.type)).run P w = .ok pl.toArray w
def fillL (pl : List (Nat × Nat)) : List Value → List (Nat × Value) → Option (List Value)
  | z, [] => some z
  | z, (i, v) :: rest => match pl[i]? with
    | none => none
    | some (off, sz) => match v with
      | .agg cs => if cs.toList.length = sz ∧ off + cs.toList.length ≤ z.length then fillL pl (spl z off cs.toList) rest else none
      | v => if 1 = sz ∧ off + 1 ≤ z.length then fillL pl (spl z off [v]) rest else none
theorem fold_spl (off : Nat) : ∀ (vs : List Value) (i : Nat) (z : Array Value), (vs.zipIdx i).foldl (fun cs (p : Value × Nat) => cs.setIfInBounds (off + p.2) p.1) z = (if off + i + vs.length ≤ z.size then (spl z.toList (off + i) vs).toArray else (vs.zipIdx i).foldl (fun cs (p : Value × Nat) => cs.setIfInBounds (off + p.2) p.1) z)
  | [], i, z => by
    by_cases h : off + i ≤ z.size
    · simp only [List.zipIdx_nil, List.foldl_nil, List.length_nil, Nat.add_zero, if_pos h]
      rw [spl_eq _ _ _ (by simpa using h)]; simp
    · simp [h]
  | v :: vs, i, z => by
    by_cases h : off + i + (vs.length + 1) ≤ z.size
    · simp only [List.zipIdx_cons, List.foldl_cons, List.length_cons, if_pos h]
      have := fold_spl off vs (i + 1) (z.setIfInBounds (off + i) v)
      rw [this, if_pos (by simp; omega)]
      congr 1
      rw [spl_eq _ _ _ (by simp; omega), spl_eq _ _ _ (by simp; omega)]
      simp only [Array.toList_setIfInBounds, List.length_cons]
      have := list_seg_step z.toList (off + i) v vs (by simp; omega)
      simpa [Nat.add_assoc, Nat.add_comm 1] using this
    · simp [h]
theorem fill_eq {pl : List (Nat × Nat)} : ∀ (parts : List (Nat × Value)) (z cells : List Value), fillL pl z parts = some cells → Instr.fill (pl.toArray[·]?) z.toArray parts = some cells.toArray
  | [], z, cells, h => by cases h; rfl
  | (i, v) :: rest, z, cells, h => by
    unfold fillL at h
    unfold Instr.fill
    cases hp : pl[i]? with
    | none => rw [hp] at h; cases h
    | some q =>
      obtain ⟨off, sz⟩ := q
      rw [hp] at h
      have hp' : pl.toArray[i]? = some (off, sz) := by simpa using hp
      rw [hp']
      have key : ∀ vs : List Value, v.cells = vs.toArray → vs.length = sz → off + vs.length ≤ z.length → fillL pl (spl z off vs) rest = some cells →
          (if v.cells.size ≠ sz || decide (off + v.cells.size > z.toArray.size) then none
            else Instr.fill (pl.toArray[·]?) (v.cells.zipIdx.foldl (fun cs (x : Value × Nat) => cs.setIfInBounds (off + x.2) x.1) z.toArray) rest) = some cells.toArray := fun vs h1 h2 h3 h4 => by
        have e1 : v.cells.size = vs.length := by rw [h1]; simp
        rw [if_neg (by simp [e1, h2]; omega)]
        have e2 : v.cells.zipIdx.foldl (fun cs (x : Value × Nat) => cs.setIfInBounds (off + x.2) x.1) z.toArray = (spl z off vs).toArray := by
          rw [← Array.foldl_toList, h1]
          have := fold_spl off vs 0 z.toArray
          rw [if_pos (by simpa using h3)] at this
          simpa using this
        rw [e2]
        exact fill_eq rest _ _ h4
      cases v with
      | agg cs =>
        simp only at h
        split at h
        · rename_i hc; exact key cs.toList (by simp [Value.cells]) hc.1 hc.2 h
        · cases h
      | _ =>
        simp only at h
        split at h
        · rename_i hc; exact key [_] rfl (by simpa using hc.1) (by simpa using hc.2) h
        · cases h
theorem o_build {t : TypeId} {pl z} {parts : List (Nat × Operand)} {cells : List Value} [c : Lay P t pl z] (hd : d < n) (hf : fillL pl z (parts.map fun (i, x) => (i, ev e x)) = some cells)
    (k : Ops P n ops rest (put e d (.agg cells.toArray)) H Φ) : Ops P n ops (⟨some d, .build t parts.toArray, ty, ps, af, none⟩ :: rest) e H Φ :=
  o_rfl hd (fun w => by
    obtain ⟨fs, hu, hl⟩ := c.lay
    have h2 := fill_eq _ _ _ hf
    have hb : (Instr.build t (parts.toArray.map fun (i, x) => (i, ev e x))).run P w = .ok (.agg cells.toArray) w := by
      unfold Instr.build
      rw [Sem.run_bind, c.zero]
      simp only [Result.andThen_ok]
      rw [Sem.run_bind, run_underlying hu]
      simp only [Result.andThen_ok, Value.cells]
      rw [Sem.run_bind, hl]
      simp only [Result.andThen_ok, List.map_toArray]
      rw [h2]
      rfl
    simp only [execOp]
    rw [Sem.run_bind, hb]
    rfl) k
/-! ### Rows made -/
def reps : Nat → List Value → List Value
  | 0, _ => []
  | n + 1, z => z ++ reps n z
theorem reps_len (k : Nat) (z : List Value) : (reps k z).length = k * z.length := by
  induction k with
  | zero => simp [reps]
  | succ k ih => simp [reps, ih, Nat.add_mul]; omega
theorem reps_get (k : Nat) (z : List Value) (hz : 0 < z.length) : ∀ j, j < k * z.length → (reps k z)[j]? = z[j % z.length]? := by
  induction k with
  | zero => intro j hj; simp at hj
  | succ k ih =>
    intro j hj
    simp only [reps]
    by_cases h : j < z.length
    · rw [List.getElem?_append_left h, Nat.mod_eq_of_lt h]
    · rw [List.getElem?_append_right (by omega), ih (j - z.length) (by rw [Nat.add_mul] at hj; omega)]
      congr 1
      exact (Nat.mod_eq_sub_mod (by omega)).symm
theorem made_eq (k : Nat) (z : List Value) (hz : 0 < z.length) : ((Array.range (k * z.length)).map fun j => z.toArray[j % z.toArray.size]!) = (reps k z).toArray := by
  apply Array.ext_getElem?
  intro j
  by_cases hj : j < k * z.length
  · have hm : j % z.length < z.length := Nat.mod_lt _ hz
    simp only [Array.getElem?_map, List.getElem?_toArray, reps_get k z hz j hj]
    rw [List.getElem?_eq_getElem hm]
    simp [hj, hm]
  · have h1 : (reps k z)[j]? = none := by simp [reps_len]; omega
    simp [h1, hj]
theorem ow_of_cl {el sz m : Nat} {l : List Value} {g : Nat} (h : l.length = m * sz) (hm : m ≤ maxLen) : Ent (cl true g l el (0, 0)) (ow el sz (some ⟨g, 0, none⟩) m m l) := fun w0 w F s =>
  ow_mk h (Nat.le_refl _) hm h (by rw [← h]; exact List.take_length) s
theorem fill_slice {sz : Nat} : ∀ (parts : List (Nat × Value)) (z cells : List Value), fillL ((List.range (z.length)).map fun i => (i * sz, sz)) z parts = some cells → 0 < sz → Instr.fill (fun i => some (i * sz, sz)) z.toArray parts = some cells.toArray
  | [], z, cells, h, _ => by cases h; rfl
  | (i, v) :: rest, z, cells, h, hs => by
    unfold fillL at h
    unfold Instr.fill
    simp only
    cases hp : ((List.range (z.length)).map fun i => (i * sz, sz))[i]? with
    | none => rw [hp] at h; cases h
    | some q =>
      have hq : q = (i * sz, sz) := by
        by_cases hlt : i < z.length
        · simp [hlt] at hp; exact hp.symm
        · simp [hlt] at hp
      subst hq
      rw [hp] at h
      have key : ∀ vs : List Value, v.cells = vs.toArray → vs.length = sz → i * sz + vs.length ≤ z.length → fillL ((List.range (z.length)).map fun i => (i * sz, sz)) (spl z (i * sz) vs) rest = some cells →
          (if v.cells.size ≠ sz || decide (i * sz + v.cells.size > z.toArray.size) then none
            else Instr.fill (fun i => some (i * sz, sz)) (v.cells.zipIdx.foldl (fun cs (x : Value × Nat) => cs.setIfInBounds (i * sz + x.2) x.1) z.toArray) rest) = some cells.toArray := fun vs h1 h2 h3 h4 => by
        have e1 : v.cells.size = vs.length := by rw [h1]; simp
        rw [if_neg (by simp [e1, h2]; omega)]
        have e2 : v.cells.zipIdx.foldl (fun cs (x : Value × Nat) => cs.setIfInBounds (i * sz + x.2) x.1) z.toArray = (spl z (i * sz) vs).toArray := by
          rw [← Array.foldl_toList, h1]
          have := fold_spl (i * sz) vs 0 z.toArray
          rw [if_pos (by simpa using h3)] at this
          simpa using this
        rw [e2]
        refine fill_slice rest _ _ ?_ hs
        rw [spl_len _ _ _ h3]; exact h4
      cases v with
      | agg cs =>
        simp only at h
        split at h
        · rename_i hc; exact key cs.toList (by simp [Value.cells]) hc.1 hc.2 h
        · cases h
      | _ =>
        simp only at h
        split at h
        · rename_i hc; exact key [_] rfl (by simpa using hc.1) (by simpa using hc.2) h
        · cases h
theorem o_buildSlice {st el sz bt len : Nat} {z : List Value} {parts : List (Nat × Operand)} {cells : List Value} [f : Slc P st el sz bt z] (hd : d < n) (hz : Nat.ble (len * sz) 16777216 = true)
    (hf : fillL ((List.range (reps len z).length).map fun i => (i * sz, sz)) (reps len z) (parts.map fun (i, x) => (i, ev e x)) = some cells) (hc : cells.length = len * sz)
    (k : ∀ b, Ops P n ops rest (put e d (.slice (some ⟨b, 0, none⟩) len len)) (ow el sz (some ⟨b, 0, none⟩) len len cells * H) Φ) : Ops P n ops (⟨some d, .buildSlice st len parts.toArray, ty, ps, af, none⟩ :: rest) e H Φ :=
  ops_step rfl hd fun w0 w F s => by
    have hz := Nat.le_of_ble_eq_true hz
    obtain ⟨i, v, hi, hbt, hsz, hzv, hzc⟩ := f.info
    have hpos := f.pos
    have hzl := f.zsz
    have s1 := s.alloc (.cells cells.toArray el)
    have hlen : len ≤ maxLen := by
      have : len ≤ len * sz := Nat.le_mul_of_pos_right _ hpos
      simp only [maxLen]; omega
    refine ⟨Next.value (.slice (some ⟨w.heap.size, 0, none⟩) len len), { w with heap := w.heap.push (.cells cells.toArray el) }, _, ?_, k w.heap.size, ?_⟩
    · have h2 := fill_slice (sz := sz) _ _ _ hf hpos
      have hno : ¬ (len * sz > 2 ^ 24) := by omega
      have hzv2 : (zeroValue el).run P w = .ok v w := by simp [zeroValue, typeInfo, hi, hzv]
      have hparts : (parts.toArray.map fun (i, x) => (i, ev e x)).toList = parts.map fun (i, x) => (i, ev e x) := by simp
      have hb : (Instr.buildSlice st len (parts.toArray.map fun (i, x) => (i, ev e x))).run P w = .ok (.slice (some ⟨w.heap.size, 0, none⟩) len len) { w with heap := w.heap.push (.cells cells.toArray el) } := by
        unfold Instr.buildSlice
        rw [hparts]
        simp only [Sem.run_bind, run_underlying f.und, Result.andThen_ok, f.size, if_neg hno]
        by_cases h0 : len * sz = 0
        · have hl0 : len = 0 := by
            rcases Nat.mul_eq_zero.1 h0 with h | h
            · exact h
            · omega
          subst hl0
          have hm : ((Array.range (0 * sz)).map fun x => (#[] : Array Value)[x % (#[] : Array Value).size]!) = (reps 0 z).toArray := by simp [reps, Array.range_zero']
          simp only [if_pos h0, Sem.run_bind, Sem.run_pure, Result.andThen_ok]
          rw [hm, h2]
          simp [newRow]
        · have hm := made_eq len z (by omega)
          rw [hzl] at hm
          simp only [if_neg h0, Sem.run_bind, Sem.run_pure, Result.andThen_ok, hzv2, hzc]
          rw [hm, h2]
          simp [newRow]
      simp only [execOp]
      rw [Sem.run_bind, hb]
      rfl
    · rw [sep_assoc]
      have := ow_of_cl (el := el) (sz := sz) (m := len) (l := cells) (g := w.heap.size) hc hlen
      exact this w0 _ (H * F) (by simpa [cl] using s1)
end Go.Proofs.YtcelailgedndnaaGreatS
namespace Go.Proofs.YtcelailgedndnaaGreatS
set_option linter.unusedSectionVars false
variable [DR]
open Go.RowKit
set_option linter.unusedVariables false
set_option linter.unusedSimpArgs false
variable {P : Program} {n : Nat} {ops : Array Oper} {rest : List Oper} {e : Env} {H : HP} {Φ : Post} {d : Nat} {ty : TypeId} {ps : String} {af : Array Edge}
/-! ### Behind a region only what is used later is kept -/
def keepN : List Nat → Env → Env → (Env → Prop) → Prop
  | [], _, g, Q => Q g
  | t :: ts, e, g, Q => keepN ts e (put g t (e t)) Q
theorem keepN_self : ∀ (ts : List Nat) (e : Env) (Q : Env → Prop), keepN ts e e Q → Q e
  | [], _, _, h => h
  | t :: ts, e, Q, h => by
    unfold keepN at h
    rw [put_same rfl] at h
    exact keepN_self ts e Q h
theorem keep_cons {t : Nat} {ts : List Nat} {g : Env} {v : Value} {Q : Env → Prop} (h : e t = v) (k : keepN ts e (put g t v) Q) : keepN (t :: ts) e g Q := by
  unfold keepN; rw [h]; exact k
theorem keep_nil {g : Env} {Q : Env → Prop} (k : Q g) : keepN [] e g Q := k
def keepP (ts : List Nat) (Φ : Post) : Post := fun x e H => x = .normal ∧ ∀ g, keepN ts e g (fun e' => Φ .normal e' H)
theorem keep_mono {c : Code} {ts : List Nat} (h : Ex P n c e H (keepP ts Φ)) : Ex P n c e H Φ := h.mono fun x e' H' ⟨hx, hk⟩ => by subst hx; exact keepN_self ts e' _ (hk e')
theorem ex_regk {id : Nat} {l : List Oper} {ts : List Nat} (h : Ops P n l.toArray l e H (keepP ts Φ)) : Ex P n (.region id l.toArray false) e H Φ := keep_mono (ex_region h)
theorem ops_nilk {ts : List Nat} (h : ∀ g, keepN ts e g (fun e' => Φ .normal e' H)) : Ops P n ops [] e H (keepP ts Φ) := ops_nil ⟨rfl, h⟩
/-! ### Regions that draw their order and only look -/
def QO (P : Program) (n : Nat) (ops : Array Oper) (l : List Oper) (e : Env) (H : HP) (K : Env → Prop) : Prop :=
  ∀ a w0 F, Rep n e a → wpQuiet P ops (fun w => Sat w0 w (H * F)) (fun a' => ∃ e', Rep n e' a' ∧ K e') l a
section
variable {K : Env → Prop}
theorem q_nil (h : K e) : QO P n ops [] e H K := fun _ _ _ r => wpQuiet_nil ⟨e, r, h⟩
theorem q_ofV {op : Op} {v : Value} (hd : d < n) (h : V P (execOp (ev e) ⟨some d, op, ty, ps, af, none⟩) H (Next.value v)) (k : QO P n ops rest (put e d v) H K) : QO P n ops (⟨some d, op, ty, ps, af, none⟩ :: rest) e H K := fun a w0 F r =>
  wpQuiet_step fun K' hK => by
    rw [if_pos (by simp [Region.wanted])]
    refine ⟨v, fun w s => ?_, hK _ (k _ w0 F (r.put hd v))⟩
    unfold Oper.quietAt
    rw [r.eval, h w0 w F s]
    exact ⟨rfl, rfl⟩
theorem q_rfl {op : Op} {v : Value} (hd : d < n) (h : ∀ w, (execOp (ev e) ⟨some d, op, ty, ps, af, none⟩).run P w = .ok (.value v) w) (k : QO P n ops rest (put e d v) H K) :
    QO P n ops (⟨some d, op, ty, ps, af, none⟩ :: rest) e H K := q_ofV hd (V.ofRun h) k
/-- The region. -/
class Mixed (P : Program) : Prop where mixed : P.follows .mixedOrders = true
theorem ex_quiet {id : Nat} {l : List Oper} [m : Mixed P] (hB : Region.lexB .any l.toArray = true) (h : QO P n l.toArray l e H (fun e' => Φ .normal e' H)) : Ex P n (.region id l.toArray true) e H Φ := fun a w0 w F r s =>
  wp_region_quiet (C := fun w => Sat w0 w (H * F)) m.mixed hB s.drawn (by
    have := h a w0 F r
    refine wpQuiet_mono' (fun a' ⟨e', r', k⟩ w' s' => ⟨e', H, r', k, s'⟩) _ _ this)
where
  wpQuiet_mono' {C : World → Prop} {Q Q' : Act → Prop} {ops : Array Oper} (k : ∀ a, Q a → Q' a) : ∀ (l : List Oper) (a : Act), wpQuiet P ops C Q l a → wpQuiet P ops C Q' l a
    | [], a, h => k a h
    | o :: rest, a, h => by
      unfold wpQuiet at h ⊢
      split
      · rename_i hw; rw [if_pos hw] at h; exact Oper.quiet_mono (fun a h => wpQuiet_mono' k rest a h) h
      · rename_i hw; rw [if_neg hw] at h; exact wpQuiet_mono' k rest _ h
end
/-! ### Regions that draw their order, whatever is in them -/
def OA (P : Program) (n : Nat) (ops : Array Oper) (fuel : Nat) (listed : Array Bool) (e : Env) (H : HP) (K : Env → HP → Prop) : Prop :=
  ∀ a w0 w F, Rep n e a → Sat w0 w (H * F) → wpAny P .any ops (QQ w0 F n (fun x e H => x = .normal ∧ K e H)) fuel listed a w
section
variable {K : Env → HP → Prop} {fuel : Nat} {listed : Array Bool}
theorem oa_done (hr : Region.ready .any ops listed = []) (h : K e H) : OA P n ops 0 listed e H K := fun a w0 w F r s => ⟨hr, e, H, r, ⟨rfl, h⟩, s⟩
/-- One that only reckons may be taken first. -/
theorem oa_first (i : Nat) {op : Op} {v : Value} (hi : ops[i]? = some ⟨some d, op, ty, ps, af, none⟩) (hns : Region.noSelect ops = true) (hfree : Region.free .any ops listed i = true) (hready : (Region.ready .any ops listed).contains i = true) (hd : d < n)
    (h : ∀ w, (execOp (ev e) ⟨some d, op, ty, ps, af, none⟩).run P w = .ok (.value v) w) (k : OA P n ops fuel (listed.setIfInBounds i true) (put e d v) H K) : OA P n ops (fuel + 1) listed e H K := fun a w0 w F r s => by
  refine wpAny_first (v := v) hi (Region.noSelect_spec hns) ?_ fuel listed a w (Region.free_spec hi hfree) (by simpa using hready) (.inl ⟨by simp [Region.wanted], fun w => by rw [r.eval]; exact h w⟩) (k _ w0 w F (r.put hd v) s)
  intro c a w hq
  obtain ⟨e', H', _, hh, _⟩ := hq
  exact absurd hh.1 (by simp)
/-- Where one alone can come next, it comes. -/
theorem oa_one (i : Nat) {o : Oper} (hr : Region.ready .any ops listed = [i]) (hi : ops[i]? = some o) (hg : o.guard = none)
    (h : Ops P n ops [o] e H (fun x e' H' => x = .normal ∧ OA P n ops fuel (listed.setIfInBounds i true) e' H' K)) : OA P n ops (fuel + 1) listed e H K := fun a w0 w F r s => by
  refine And.intro (fun h0 => by rw [hr] at h0; simp at h0) (fun j hj => ?_)
  rw [hr] at hj
  obtain rfl : j = i := by simpa using hj
  have h1 := h a w0 w F r s
  unfold wpList at h1
  unfold wpOp
  simp only [hi]
  have hw : Region.wanted o (yielded ops a.tmps) = true := by simp [Region.wanted, hg]
  rw [if_pos hw] at h1 ⊢
  rcases h1 with h1 | ⟨_, a', w', e', H', _, ⟨hx, _⟩, _⟩
  · left
    unfold Oper.wp at h1 ⊢
    revert h1
    generalize (execOp a.eval o).run P w = res
    have step : ∀ a w, wpList P ops (QQ w0 F n (fun x e' H' => x = .normal ∧ OA P n ops fuel (listed.setIfInBounds j true) e' H' K)) [] a w → wpAny P .any ops (QQ w0 F n (fun x e H => x = .normal ∧ K e H)) fuel (listed.setIfInBounds j true) a w :=
      fun a w ⟨e', H', r', ⟨_, ho⟩, s'⟩ => ho a w0 w F r' s'
    have nope : ∀ c a w, ¬ QQ w0 F n (fun x e' H' => x = .normal ∧ OA P n ops fuel (listed.setIfInBounds j true) e' H' K) (.panic c) a w := fun c a w ⟨_, _, _, ⟨hx, _⟩, _⟩ => by cases hx
    have nopeo : ¬ LetsOut (QQ w0 F n (fun x e' H' => x = .normal ∧ OA P n ops fuel (listed.setIfInBounds j true) e' H' K)) := fun ⟨_, _, _, _, _, ⟨hx, _⟩, _⟩ => by cases hx
    cases res with
    | ok nx w1 =>
      cases nx <;> simp only [Oper.upon] <;> intro h1 <;>
        first
          | exact h1.elim
          | exact step _ _ h1
          | exact Calls.mono h1 (fun e w'' he => by
              cases e with
              | returned v => exact step _ _ he
              | panicked c => exact absurd he (nope _ _ _)
              | outgrown => exact absurd he nopeo)
          | exact Rows.mono h1 (fun _ _ he => step _ _ he)
    | halt hh w1 =>
      cases hh <;> simp only [Oper.upon] <;> intro h1 <;> first | exact h1.elim | exact absurd h1 (nope _ _ _)
  · cases hx
theorem ex_any {id : Nat} {l : List Oper} [m : Mixed P] {k : Nat} (hk : l.length = k) (h : OA P n l.toArray k (Array.replicate k false) e H (fun e' H' => Φ .normal e' H')) : Ex P n (.region id l.toArray true) e H Φ := fun a w0 w F r s => by
  subst hk
  have := h a w0 _ F r s.drawn
  have h2 : wpAny P .any l.toArray (QQ w0 F n (fun x e H => x = .normal ∧ Φ .normal e H)) l.toArray.size (Array.replicate l.toArray.size false) a { w with drawn := w.drawn + 1 } := by simpa using this
  refine wp_mono (wp_region_any m.mixed h2) ?_
  rintro x a' w' ⟨e', H', r', ⟨rfl, k⟩, s'⟩
  exact ⟨e', H', r', k, s'⟩
end
end Go.Proofs.YtcelailgedndnaaGreatS
namespace Go.Proofs.YtcelailgedndnaaGreatS
set_option linter.unusedSectionVars false
variable [DR]
open Go.RowKit
set_option linter.unusedVariables false
set_option linter.unusedSimpArgs false
variable {P : Program} {n : Nat} {ops : Array Oper} {rest : List Oper} {e : Env} {H : HP} {Φ : Post} {d : Nat} {ty : TypeId} {ps : String} {af : Array Edge}
section
variable {K : Env → Prop}
theorem q_move {x : Operand} (hd : d < n) (k : QO P n ops rest (put e d (ev e x)) H K) : QO P n ops (⟨some d, .move x, ty, ps, af, none⟩ :: rest) e H K := q_rfl hd (fun _ => rfl) k
theorem q_assign {x : Operand} (hd : d < n) (k : QO P n ops rest (put e d (ev e x)) H K) : QO P n ops (⟨some d, .assign x, ty, ps, af, none⟩ :: rest) e H K := q_rfl hd (fun _ => rfl) k
theorem q_nilc {x : Operand} {a : Addr} (hd : d < n) (hx : ev e x = .pointer (some a)) (k : QO P n ops rest (put e d (.pointer (some a))) H K) : QO P n ops (⟨some d, .nilCheck x, ty, ps, af, none⟩ :: rest) e H K :=
  q_rfl hd (fun w => by simp only [execOp, hx]; rfl) k
theorem q_nilf {x : Operand} {f : FuncId} {c : Array Value} (hd : d < n) (hx : ev e x = .func (.func f) #[] c) (k : QO P n ops rest (put e d (.func (.func f) #[] c)) H K) : QO P n ops (⟨some d, .nilCheck x, ty, ps, af, none⟩ :: rest) e H K :=
  q_rfl hd (fun w => by simp only [execOp, hx]; rfl) k
/-- The whole numbers' operations, as their values. -/
theorem q_int {x y : Operand} {op : BinOp} {k : IntKind} {a b : Int} {v : Value} {t u : TypeId} (hd : d < n) (hx : ev e x = .int k a) (hy : ev e y = .int k b) (hv : io op k a b = some v)
    (c : QO P n ops rest (put e d v) H K) : QO P n ops (⟨some d, .binOp op t x y u, ty, ps, af, none⟩ :: rest) e H K :=
  q_rfl hd (fun w => by
    simp only [execOp, hx, hy]
    cases op <;> simp only [io, Option.some.injEq, reduceCtorEq] at hv <;> subst hv <;> simp [eqGuard, binOp, Op.intArith, Op.intCmp, Op.intBits, bits]) c
theorem q_quo {x y : Operand} {k : IntKind} {a b : Int} {t u : TypeId} (hd : d < n) (hx : ev e x = .int k a) (hy : ev e y = .int k b) (h0 : b ≠ 0)
    (c : QO P n ops rest (put e d (.int k (k.wrap (a.tdiv b)))) H K) : QO P n ops (⟨some d, .binOp .quo t x y u, ty, ps, af, none⟩ :: rest) e H K :=
  q_rfl hd (fun w => by simp only [execOp, hx, hy]; simp [eqGuard, binOp, Op.intDiv, h0]) c
theorem q_rem {x y : Operand} {k : IntKind} {a b : Int} {t u : TypeId} (hd : d < n) (hx : ev e x = .int k a) (hy : ev e y = .int k b) (h0 : b ≠ 0)
    (c : QO P n ops rest (put e d (.int k (a.tmod b))) H K) : QO P n ops (⟨some d, .binOp .rem t x y u, ty, ps, af, none⟩ :: rest) e H K :=
  q_rfl hd (fun w => by simp only [execOp, hx, hy]; simp [eqGuard, binOp, Op.intDiv, h0]) c
theorem q_shl {x y : Operand} {k yk : IntKind} {a b : Int} {t u : TypeId} (hd : d < n) (hx : ev e x = .int k a) (hy : ev e y = .int yk b) (h0 : 0 ≤ b)
    (c : QO P n ops rest (put e d (.int k (k.wrap (a * 2 ^ min b.toNat k.bits)))) H K) : QO P n ops (⟨some d, .binOp .shl t x y u, ty, ps, af, none⟩ :: rest) e H K :=
  q_rfl hd (fun w => by simp only [execOp, hx, hy]; simp [eqGuard, binOp, Op.shift, Int.not_lt.2 h0]) c
theorem q_shr {x y : Operand} {k yk : IntKind} {a b : Int} {t u : TypeId} (hd : d < n) (hx : ev e x = .int k a) (hy : ev e y = .int yk b) (h0 : 0 ≤ b)
    (c : QO P n ops rest (put e d (.int k (a.fdiv (2 ^ min b.toNat k.bits)))) H K) : QO P n ops (⟨some d, .binOp .shr t x y u, ty, ps, af, none⟩ :: rest) e H K :=
  q_rfl hd (fun w => by simp only [execOp, hx, hy]; simp [eqGuard, binOp, Op.shift, Int.not_lt.2 h0]) c
theorem q_not {x : Operand} {b : Bool} {t : TypeId} (hd : d < n) (hx : ev e x = .bool b) (c : QO P n ops rest (put e d (.bool !b)) H K) : QO P n ops (⟨some d, .unOp .not t x, ty, ps, af, none⟩ :: rest) e H K :=
  q_rfl hd (fun w => by simp only [execOp, hx]; rfl) c
theorem q_neg {x : Operand} {k : IntKind} {a : Int} {t : TypeId} (hd : d < n) (hx : ev e x = .int k a) (c : QO P n ops rest (put e d (.int k (k.wrap (0 - a)))) H K) : QO P n ops (⟨some d, .unOp .neg t x, ty, ps, af, none⟩ :: rest) e H K :=
  q_rfl hd (fun w => by simp only [execOp, hx]; rfl) c
theorem q_cpl {x : Operand} {k : IntKind} {a : Int} {t : TypeId} (hd : d < n) (hx : ev e x = .int k a) (c : QO P n ops rest (put e d (.int k (bits .xor k (if k.signed then -1 else k.max) a))) H K) : QO P n ops (⟨some d, .unOp .xor t x, ty, ps, af, none⟩ :: rest) e H K :=
  q_rfl hd (fun w => by simp only [execOp, hx]; rfl) c
theorem q_conv {x : Operand} {k k0 : IntKind} {a : Int} {s t : TypeId} [i0 : IntT P s k0] [i : IntT P t k] (hd : d < n) (hx : ev e x = .int k0 a) (c : QO P n ops rest (put e d (.int k (k.wrap a))) H K) : QO P n ops (⟨some d, .convert s t x, ty, ps, af, none⟩ :: rest) e H K :=
  q_rfl hd (fun w => by simp only [execOp, hx]; simp [convert, run_underlying i0.und, run_underlying i.und, Conv.intToInt]) c
theorem q_extract {x : Operand} {l : List Value} {j : Nat} {v : Value} (hd : d < n) (hx : ev e x = .tuple l.toArray) (hj : l[j]? = some v) (c : QO P n ops rest (put e d v) H K) : QO P n ops (⟨some d, .extract x j, ty, ps, af, none⟩ :: rest) e H K :=
  q_rfl hd (fun w => by simp only [execOp, hx]; simp [Instr.extract, hj]) c
theorem q_fieldAddr {x : Operand} {a : Addr} {s i off : Nat} [f : Fld P s i off] (hd : d < n) (hx : ev e x = .pointer (some a)) (c : QO P n ops rest (put e d (.pointer (some (a.add off)))) H K) :
    QO P n ops (⟨some d, .fieldAddr s x i, ty, ps, af, none⟩ :: rest) e H K :=
  q_rfl hd (fun w => by simp only [execOp, hx]; simp [f.addr]) c
theorem q_fieldAddr' {x : Operand} {b o s i off : Nat} [f : Fld P s i off] (hd : d < n) (hx : ev e x = .pointer (some ⟨b, o, none⟩)) (c : QO P n ops rest (put e d (.pointer (some ⟨b, o + off, none⟩))) H K) :
    QO P n ops (⟨some d, .fieldAddr s x i, ty, ps, af, none⟩ :: rest) e H K := q_fieldAddr hd hx (by rw [add_none]; exact c)
theorem q_index {x y : Operand} {a : Addr} {len cap st el sz bt : Nat} {z : List Value} {k : IntKind} {i : Int} [f : Slc P st el sz bt z] (hd : d < n) (hx : ev e x = .slice (some a) len cap) (hy : ev e y = .int k i) (h0 : 0 ≤ i) (h1 : i < len)
    (c : QO P n ops rest (put e d (.pointer (some (a.add (i.toNat * sz))))) H K) : QO P n ops (⟨some d, .indexAddr st x y, ty, ps, af, none⟩ :: rest) e H K :=
  q_rfl hd (fun w => by simp only [execOp, hx, hy]; simp [Instr.indexAt, asIntOf, run_underlying f.und, f.size, h0, h1]) c
theorem q_index' {x y : Operand} {b o : Nat} {len cap st el sz bt : Nat} {z : List Value} {k : IntKind} {i : Int} [f : Slc P st el sz bt z] (hd : d < n) (hx : ev e x = .slice (some ⟨b, o, none⟩) len cap) (hy : ev e y = .int k i) (h0 : 0 ≤ i) (h1 : i < len)
    (c : QO P n ops rest (put e d (.pointer (some ⟨b, o + i.toNat * sz, none⟩))) H K) : QO P n ops (⟨some d, .indexAddr st x y, ty, ps, af, none⟩ :: rest) e H K := q_index hd hx hy h0 h1 (by rw [add_none]; exact c)
theorem q_indexA {x y : Operand} {b o : Nat} {len el sz at_ : Nat} {k : IntKind} {i : Int} [f : Arr P at_ len el sz] (hd : d < n) (hx : ev e x = .pointer (some ⟨b, o, none⟩)) (hy : ev e y = .int k i) (h0 : 0 ≤ i) (h1 : i < len)
    (c : QO P n ops rest (put e d (.pointer (some ⟨b, o + i.toNat * sz, none⟩))) H K) : QO P n ops (⟨some d, .indexAddr at_ x y, ty, ps, af, none⟩ :: rest) e H K :=
  q_rfl hd (fun w => by simp only [execOp, hx, hy]; simp [Instr.indexAt, asIntOf, run_underlying f.und, f.size, h0, h1, Instr.sureAddr, add_none]) c
theorem q_len {x : Operand} {a : Option Addr} {len cap st el sz bt : Nat} {z : List Value} {u : Array TypeId} [f : Slc P st el sz bt z] (hd : d < n) (hx : ev e x = .slice a len cap) (hu : u = #[st])
    (c : QO P n ops rest (put e d (.int .i64 (len : Int))) H K) : QO P n ops (⟨some d, .call ⟨.builtin .len, #[x], u⟩, ty, ps, af, none⟩ :: rest) e H K :=
  q_rfl hd (fun w => by subst hu; simp [execOp, resolve, invoke, builtin, hx, Builtin.len_, run_underlying f.und, goInt]) c
theorem q_min2 {x y : Operand} {k : IntKind} {a b : Int} {u : Array TypeId} (hd : d < n) (hx : ev e x = .int k a) (hy : ev e y = .int k b) (c : QO P n ops rest (put e d (.int k (if b < a then b else a))) H K) :
    QO P n ops (⟨some d, .call ⟨.builtin .min, #[x, y], u⟩, ty, ps, af, none⟩ :: rest) e H K :=
  q_rfl hd (fun w => by simp [execOp, resolve, invoke, builtin, hx, hy, Builtin.min_, Builtin.min2]) c
theorem q_max2 {x y : Operand} {k : IntKind} {a b : Int} {u : Array TypeId} (hd : d < n) (hx : ev e x = .int k a) (hy : ev e y = .int k b) (c : QO P n ops rest (put e d (.int k (if b > a then b else a))) H K) :
    QO P n ops (⟨some d, .call ⟨.builtin .max, #[x, y], u⟩, ty, ps, af, none⟩ :: rest) e H K :=
  q_rfl hd (fun w => by simp [execOp, resolve, invoke, builtin, hx, hy, Builtin.max_, Builtin.max2]) c
theorem q_mv {x : Operand} {v : Value} (hd : d < n) (hx : ev e x = v) (k : QO P n ops rest (put e d v) H K) : QO P n ops (⟨some d, .move x, ty, ps, af, none⟩ :: rest) e H K := q_move hd (by rw [hx]; exact k)
theorem q_as {x : Operand} {v : Value} (hd : d < n) (hx : ev e x = v) (k : QO P n ops rest (put e d v) H K) : QO P n ops (⟨some d, .assign x, ty, ps, af, none⟩ :: rest) e H K := q_assign hd (by rw [hx]; exact k)
theorem q_load_s {t : TypeId} {z : Value} {x : Operand} {b o : Nat} {v : Value} {p l t' fr R} [c : Sc P t z] [hl : HasL H b p l t' fr R] (hd : d < n) (hx : ev e x = .pointer (some ⟨b, o, none⟩)) (hv : l[o]? = some v)
    (k : QO P n ops rest (put e d v) H K) : QO P n ops (⟨some d, .load t x, ty, ps, af, none⟩ :: rest) e H K :=
  q_ofV (v := v) hd (fun w0 w F s => by
    have hc := cell_at (has_heap (b := b) s) o
    rw [hv] at hc
    simp only [execOp, hx]
    simp [Instr.loadAt, Instr.sureAddr, v_loadVar_s hc]) k
theorem q_load_a {t sz : Nat} {z : List Value} {x : Operand} {b o : Nat} {vs : List Value} {p l t' fr R} [c : Ag P t sz z] [hl : HasL H b p l t' fr R] (hd : d < n) (hx : ev e x = .pointer (some ⟨b, o, none⟩)) (hv : sub l o sz = some vs)
    (k : QO P n ops rest (put e d (.agg vs.toArray)) H K) : QO P n ops (⟨some d, .load t x, ty, ps, af, none⟩ :: rest) e H K :=
  q_ofV hd (v := .agg vs.toArray) (fun w0 w F s => by
    obtain ⟨h1, h2⟩ := sub_len hv
    have hc : ∀ j v, vs[j]? = some v → w.cell? ((⟨b, o, none⟩ : Addr).add j) = some v := fun j v hj => by
      have hlt : j < sz := by rw [← h1]; exact (List.getElem?_eq_some_iff.1 hj).1
      rw [add_none, cell_at (has_heap (b := b) s), ← h2 j hlt, hj]
    simp only [execOp, hx]
    simp [Instr.loadAt, Instr.sureAddr, v_loadVar_a h1 hc]) k
theorem q_load_r {t : TypeId} {z : Value} {x : Operand} {ad : Addr} {j : Nat} {v : Value} {l} [c : Sc P t z] [hr : RdC H (some ad) l] (hd : d < n) (hx : ev e x = .pointer (some (ad.add j))) (hv : l[j]? = some v)
    (k : QO P n ops rest (put e d v) H K) : QO P n ops (⟨some d, .load t x, ty, ps, af, none⟩ :: rest) e H K :=
  q_ofV hd (v := v) (fun w0 w F s => by
    obtain ⟨ad', ha, hc⟩ := hr.rd w0 w F s j v hv
    cases ha
    simp only [execOp, hx]
    simp [Instr.loadAt, Instr.sureAddr, v_loadVar_s hc]) k
theorem q_load_ra {t sz : Nat} {z : List Value} {x : Operand} {ad : Addr} {j : Nat} {vs : List Value} {l} [c : Ag P t sz z] [hr : RdC H (some ad) l] (hd : d < n) (hx : ev e x = .pointer (some (ad.add j))) (hv : sub l j sz = some vs)
    (k : QO P n ops rest (put e d (.agg vs.toArray)) H K) : QO P n ops (⟨some d, .load t x, ty, ps, af, none⟩ :: rest) e H K :=
  q_ofV hd (v := .agg vs.toArray) (fun w0 w F s => by
    obtain ⟨h1, h2⟩ := sub_len hv
    have hc : ∀ i v, vs[i]? = some v → w.cell? ((ad.add j).add i) = some v := fun i v hi => by
      have hlt : i < sz := by rw [← h1]; exact (List.getElem?_eq_some_iff.1 hi).1
      obtain ⟨ad', ha, hc⟩ := hr.rd w0 w F s (j + i) v (by rw [← h2 i hlt, hi])
      cases ha
      rw [add_add]; exact hc
    simp only [execOp, hx]
    simp [Instr.loadAt, Instr.sureAddr, v_loadVar_a h1 hc]) k
end
theorem ex_quietk {id : Nat} {l : List Oper} {ts : List Nat} [m : Mixed P] (hB : Region.lexB .any l.toArray = true) (h : QO P n l.toArray l e H (fun e' => keepP ts Φ .normal e' H)) : Ex P n (.region id l.toArray true) e H Φ := keep_mono (ex_quiet hB h)
theorem q_nilk {ts : List Nat} (h : ∀ g, keepN ts e g (fun e' => Φ .normal e' H)) : QO P n ops [] e H (fun e' => keepP ts Φ .normal e' H) := q_nil ⟨rfl, h⟩
/-! ### Rows made -/
theorem o_make {st el sz bt m : Nat} {z : List Value} {x y : Operand} {kl kc : IntKind} [f : Slc P st el sz bt z] (hd : d < n) (hx : ev e x = .int kl (m : Int)) (hy : ev e y = .int kc (m : Int)) (hb : bt * m ≤ 281474976710656) (hm : m ≤ maxLen)
    (k : ∀ b, Ops P n ops rest (put e d (.slice (some ⟨b, 0, none⟩) m m)) (ow el sz (some ⟨b, 0, none⟩) m m (reps m z) * H) Φ) : Ops P n ops (⟨some d, .makeSlice st x y, ty, ps, af, none⟩ :: rest) e H Φ :=
  ops_step rfl hd fun w0 w F s => by
    obtain ⟨i, v, hi, hbt, hsz, hzv, hzc⟩ := f.info
    have hpos := f.pos
    have hzl := f.zsz
    have s1 := s.alloc (.cells (reps m z).toArray el)
    have hb2 : (i.bytes : Int) * (m : Int) ≤ 281474976710656 := by
      have h3 : ((bt * m : Nat) : Int) ≤ 281474976710656 := by omega
      rw [hbt]; rwa [Int.natCast_mul] at h3
    have h63 : (m : Int) ≤ 9223372036854775807 := by simp only [maxLen] at hm; omega
    have hr := run_make (P := P) w st el i v f.und hi hzv kl kc m m (by omega) (by omega) hb2 h63
    have hmc : madeCells v.cells ((m : Int).toNat * i.size) = (reps m z).toArray := by
      rw [hzc, hsz, Int.toNat_natCast]
      have := made_eq m z (by omega)
      rw [hzl] at this
      exact this
    rw [hmc] at hr
    simp only [Int.toNat_natCast] at hr
    refine ⟨Next.value (.slice (some ⟨w.heap.size, 0, none⟩) m m), w.alloc (.cells (reps m z).toArray el), _, ?_, k w.heap.size, ?_⟩
    · simp only [execOp, hx, hy]
      rw [Sem.run_bind, hr]; rfl
    · rw [sep_assoc]
      have hlen : (reps m z).length = m * sz := by rw [reps_len, hzl]
      have := ow_of_cl (el := el) (sz := sz) (m := m) (l := reps m z) (g := w.heap.size) hlen hm
      exact this w0 _ (H * F) s1
/-! ### Owned rows written, copied into -/
class HasOA (H : HP) (ad : Addr) (el sz m cap : outParam Nat) (l : outParam (List Value)) (R : outParam HP) : Prop where eq : H = ow el sz (some ad) m cap l * R
instance (priority := 1000) hasOA_h (el sz ad m cap l R) : HasOA (ow el sz (some ad) m cap l * R) ad el sz m cap l R := ⟨rfl⟩
instance (priority := 900) hasOA_1 (el sz ad m cap l) : HasOA (ow el sz (some ad) m cap l) ad el sz m cap l 1 := ⟨(sep_one _).symm⟩
instance (priority := 500) hasOA_t (A H ad el sz m cap l R) [h : HasOA H ad el sz m cap l R] : HasOA (A * H) ad el sz m cap l (A * R) := ⟨by rw [h.eq, sep_left_comm]⟩
theorem spl_append : ∀ (l : List Value) (o : Nat) (vs rest : List Value), o + vs.length ≤ l.length → spl (l ++ rest) o vs = spl l o vs ++ rest
  | l, 0, [], rest, _ => by cases l <;> cases rest <;> rfl
  | [], 0, v :: vs, rest, h => by simp at h
  | [], o + 1, vs, rest, h => by simp at h
  | x :: l, 0, v :: vs, rest, h => by
    have := spl_append l 0 vs rest (by simpa using h)
    simp [spl, this]
  | x :: l, o + 1, vs, rest, h => by
    have := spl_append l o vs rest (by simp at h; omega)
    simp [spl, this]
theorem take_spl {l cur vs : List Value} {j k : Nat} (h : cur.take k = l) (hl : l.length = k) (hf : j + vs.length ≤ l.length) : (spl cur j vs).take k = spl l j vs := by
  have e : cur = l ++ cur.drop k := by rw [← h, List.take_append_drop]
  rw [e, spl_append _ _ _ _ hf, ← hl, ← spl_len l j vs hf]
  exact List.take_left
theorem ow_store {el sz : Nat} {ad : Addr} {m cap : Nat} {l vs : List Value} {w0 w : World} {F : HP} {t : TypeId} {v : Value} {j : Nat} (s : Sat w0 w (ow el sz (some ad) m cap l * F)) (hs : (sizeOf t).run P w = .ok vs.length w) (hc : v.cells = vs.toArray)
    (h1 : ∀ u ∈ vs, u.oneCell' = true) (hf : j + vs.length ≤ l.length) (hne : 0 < vs.length) : ∃ w', (storeVar t (ad.add j) v).run P w = .ok () w' ∧ Sat w0 w' (ow el sz (some ad) m cap (spl l j vs) * F) := by
  obtain ⟨hlen, hmc, hcm, hcase⟩ := ow_cases s
  rcases hcase with ⟨hc0, _⟩ | ⟨g, cur, ha, hcur, htake, sg⟩
  · have hm0 : m = 0 := by omega
    have hl0 : l.length = 0 := by rw [hlen, hm0]; simp
    omega
  · cases ha
    have hle : l.length ≤ cur.length := by rw [← htake, List.length_take]; omega
    have hr := run_storeVar (P := P) (t := t) (v := v) (vs := vs) (o := 0 + j) hs hc rfl h1 sg.heapCl (by omega)
    rw [add_none]
    refine ⟨_, hr, ow_mk (cur := spl cur (0 + j) vs) ?_ hmc hcm ?_ ?_ sg.setRow⟩
    · rw [spl_len _ _ _ hf]; exact hlen
    · rw [spl_len _ _ _ (by omega)]; exact hcur
    · rw [Nat.zero_add]; exact take_spl htake hlen hf
theorem o_store_os {t : TypeId} {z : Value} {x y : Operand} {ad : Addr} {j : Nat} {v : Value} {el sz m cap l R} [c : Sc P t z] [ho : HasOA H ad el sz m cap l R] (hx : ev e x = .pointer (some (ad.add j))) (hy : ev e y = v) (h1 : v.oneCell' = true) (hf : j < l.length)
    (k : Ops P n ops rest e (ow el sz (some ad) m cap (spl l j [v]) * R) Φ) : Ops P n ops (⟨none, .store t x y, ty, ps, af, none⟩ :: rest) e H Φ :=
  ops_step rfl trivial fun w0 w F s => by
    rw [ho.eq, sep_assoc] at s
    obtain ⟨w', hr, s'⟩ := ow_store (P := P) (t := t) (v := v) (vs := [v]) (j := j) s (c.size w) (oneCell_cells h1) (by simpa using h1) (by simp only [List.length_cons, List.length_nil]; omega) (by simp)
    refine ⟨.skip, w', _, ?_, k, by rw [sep_assoc]; exact s'⟩
    simp only [execOp, hx, hy]
    simp [Instr.storeAt, Instr.sureAddr, hr]
theorem o_store_oa {t sz' : Nat} {z : List Value} {x y : Operand} {ad : Addr} {j : Nat} {vs : List Value} {el sz m cap l R} [c : Ag P t sz' z] [ho : HasOA H ad el sz m cap l R] (hx : ev e x = .pointer (some (ad.add j))) (hy : ev e y = .agg vs.toArray) (hs : vs.length = sz') (hpos : 0 < vs.length)
    (h1 : vs.all (·.oneCell') = true) (hf : j + vs.length ≤ l.length)
    (k : Ops P n ops rest e (ow el sz (some ad) m cap (spl l j vs) * R) Φ) : Ops P n ops (⟨none, .store t x y, ty, ps, af, none⟩ :: rest) e H Φ :=
  ops_step rfl trivial fun w0 w F s => by
    rw [ho.eq, sep_assoc] at s
    obtain ⟨w', hr, s'⟩ := ow_store (P := P) (t := t) (v := .agg vs.toArray) (vs := vs) (j := j) s (by rw [hs]; exact c.size w) rfl (by simpa using h1) hf hpos
    refine ⟨.skip, w', _, ?_, k, by rw [sep_assoc]; exact s'⟩
    simp only [execOp, hx, hy]
    simp [Instr.storeAt, Instr.sureAddr, hr]
theorem ow_storeCells {el sz : Nat} {ad : Addr} {m cap : Nat} {l vs : List Value} {w0 w : World} {F : HP} (s : Sat w0 w (ow el sz (some ad) m cap l * F)) (h1 : ∀ u ∈ vs, u.oneCell' = true) (hf : vs.length ≤ l.length) :
    ∃ w', (storeCells ad vs).run P w = .ok () w' ∧ Sat w0 w' (ow el sz (some ad) m cap (spl l 0 vs) * F) := by
  obtain ⟨hlen, hmc, hcm, hcase⟩ := ow_cases s
  rcases hcase with ⟨hc0, _⟩ | ⟨g, cur, ha, hcur, htake, sg⟩
  · have hm0 : m = 0 := by omega
    have hl0 : l = [] := List.eq_nil_of_length_eq_zero (by rw [hlen, hm0]; simp)
    subst hl0
    have : vs = [] := List.eq_nil_of_length_eq_zero (by simpa using hf)
    subst this
    exact ⟨w, rfl, by simpa [spl] using s⟩
  · cases ha
    have hle : l.length ≤ cur.length := by rw [← htake, List.length_take]; omega
    have hr := run_storeCells_at P g 0 el vs 0 cur.toArray w sg.heapCl (by simp; omega) h1
    have e1 : cur.toArray.toList.take (0 + 0) ++ vs ++ cur.toArray.toList.drop (0 + 0 + vs.length) = spl cur 0 vs := by
      rw [spl_eq _ _ _ (by omega)]
    rw [e1] at hr
    refine ⟨_, hr, ow_mk (cur := spl cur 0 vs) ?_ hmc hcm ?_ ?_ sg.setRow⟩
    · rw [spl_len _ _ _ (by omega)]; exact hlen
    · rw [spl_len _ _ _ (by omega)]; exact hcur
    · exact take_spl htake hlen (by omega)
/-- 'copy' of a whole row into one that is owned and no shorter. -/
theorem o_copy {x y : Operand} {st el sz bt : Nat} {z : List Value} [f : Slc P st el sz bt z] {a b : Option Addr} {m cap k ck : Nat} {l news : List Value} {R : HP} {u : Array TypeId} (hd : d < n) (hx : ev e x = .slice a m cap) (hy : ev e y = .slice b k ck) (hu : u = #[st, st])
    [ho : HasO H el sz a m cap l R] [hrd : RdC R b news] (hl : news.length = k * sz) (h1 : ∀ v ∈ news, v.oneCell' = true) (hk : k ≤ m)
    (c : Ops P n ops rest (put e d (.int .i64 (k : Int))) (ow el sz a m cap (spl l 0 news) * R) Φ) : Ops P n ops (⟨some d, .call ⟨.builtin .copy, #[x, y], u⟩, ty, ps, af, none⟩ :: rest) e H Φ :=
  ops_step rfl hd fun w0 w F s => by
    subst hu
    have s1 := ho.ent _ _ _ s
    rw [sep_assoc] at s1
    have sR := s1.drop
    have hlen := (ow_cases s1).1
    have hfc : (Builtin.firstCells sz k (.slice b k ck)).run P w = .ok news.toArray w := by
      by_cases hk0 : news.length = 0
      · have : news = [] := List.eq_nil_of_length_eq_zero hk0
        subst this
        cases b with
        | none => simp [Builtin.firstCells]
        | some b =>
          have h0 : k * sz = 0 := by rw [← hl]; rfl
          simp [Builtin.firstCells, h0, loadCells, loadCellsFrom]
      · obtain ⟨bd, rfl⟩ := hrd.rd.some (by omega) sR
        refine run_firstCells_some (P := P) w sz k bd k ck news hl (fun j v hj => ?_)
        obtain ⟨ad, ha, hc⟩ := hrd.rd w0 w F sR j v hj
        cases ha; exact hc
    have hmin : Nat.min k m = k := Nat.min_eq_left hk
    cases a with
    | none =>
      have hn : news = [] := by
        rcases (ow_cases s1).2.2.2 with ⟨hc0, _⟩ | ⟨g, cur, ha, _⟩
        · have := (ow_cases s1).2.1
          have hk0 : k = 0 := by omega
          exact List.eq_nil_of_length_eq_zero (by rw [hl, hk0]; simp)
        · cases ha
      subst hn
      have hsp : spl l 0 [] = l := by cases l <;> rfl
      refine ⟨Next.value (.int .i64 (k : Int)), w, ow el sz none m cap (spl l 0 []) * R, ?_, c, by rw [hsp, sep_assoc]; exact s1⟩
      simp [execOp, resolve, invoke, builtin, hx, hy, Builtin.copy_, run_underlying f.und, Builtin.lenOf, hmin, f.size, hfc, goInt]
    | some ad =>
      have hle : news.length ≤ l.length := by rw [hl, hlen]; exact Nat.mul_le_mul_right _ hk
      obtain ⟨w', hr, s'⟩ := ow_storeCells (P := P) s1 h1 hle
      refine ⟨Next.value (.int .i64 (k : Int)), w', ow el sz (some ad) m cap (spl l 0 news) * R, ?_, c, by rw [sep_assoc]; exact s'⟩
      simp [execOp, resolve, invoke, builtin, hx, hy, Builtin.copy_, run_underlying f.und, Builtin.lenOf, hmin, f.size, hfc, hr, goInt]
/-! ### Read rows cut -/
theorem RdP.cut {a l} {lo hi : Nat} (h : RdP H a l) (b : Bool) : RdP H (if b = true then a else a.map (·.add lo)) (if b = true then [] else (l.drop lo).take hi) := fun w0 w F s j v hj => by
  cases b with
  | true => simp at hj
  | false =>
    simp only [Bool.false_eq_true, if_false, List.getElem?_take] at hj ⊢
    split at hj
    · obtain ⟨ad, ha, hc⟩ := h w0 w F s (lo + j) v (by rw [← hj]; simp)
      subst ha
      exact ⟨_, rfl, by rw [add_add]; exact hc⟩
    · cases hj
/-- A piece of a row that is read: its own name for its place, and what it reads in whatever memory the whole is read. -/
theorem o_slice_r {x : Operand} {a : Option Addr} {len cap st el sz bt : Nat} {z : List Value} {lo hi : Option Operand} {l h : Nat} {cs : List Value} [f : Slc P st el sz bt z] [hrd : RdC H a cs] (hd : d < n) (hx : ev e x = .slice a len cap)
    (hh : match hi with | none => h = len | some y => ∃ k i, ev e y = .int k i ∧ 0 ≤ i ∧ i ≤ cap ∧ i.toNat = h) (hl : match lo with | none => l = 0 | some y => ∃ k i, ev e y = .int k i ∧ 0 ≤ i ∧ i ≤ h ∧ i.toNat = l) (hc : h ≤ cap)
    (c : ∀ a', (∀ H' [RdC H' a cs], RdC H' a' ((cs.drop (l * sz)).take ((h - l) * sz))) → Ops P n ops rest (put e d (.slice a' (h - l) (cap - l))) H Φ) : Ops P n ops (⟨some d, .slice st x lo hi none, ty, ps, af, none⟩ :: rest) e H Φ := by
  refine o_slice (l := l) (h := h) hd hx hh hl (c _ (fun H' hr => ⟨?_⟩))
  by_cases hcl : cap = l
  · have h0 : h - l = 0 := by omega
    rw [if_pos hcl, h0]
    simp only [Nat.zero_mul, List.take_zero]
    exact fun _ _ _ _ j v hj => by simp at hj
  · rw [if_neg hcl]
    have := hr.rd.cut (lo := l * sz) (hi := (h - l) * sz) false
    simpa using this
end Go.Proofs.YtcelailgedndnaaGreatS
namespace Go.Proofs.YtcelailgedndnaaGreatS
set_option linter.unusedSectionVars false
variable [DR]
open Go.RowKit
variable {P : Program}
def all (W : World) (b : Nat) : Cell := match W.heap[b]? with
  | some o => some (false, o)
  | none => none
theorem all_some {W : World} {b : Nat} {o : Obj} (h : W.heap[b]? = some o) : all W b = some (false, o) := by unfold all; rw [h]
theorem of_all {W : World} {b : Nat} {v : Bool × Obj} (h : all W b = some v) : v.1 = false ∧ W.heap[b]? = some v.2 := by
  unfold all at h
  cases e : W.heap[b]? with
  | none => rw [e] at h; cases h
  | some o => rw [e] at h; cases h; exact ⟨rfl, rfl⟩
/-- All of a world's memory, to read. -/
def snap (W : World) : HP := fun h => ∀ b, h b = all W b
def Fits (W : World) (A : HP) : Prop := ∃ h, A h ∧ ∀ b v, h b = some v → v.1 = false ∧ W.heap[b]? = some v.2
theorem Fits.one (W) : Fits W 1 := ⟨fun _ => none, fun _ => rfl, fun b v e => by cases e⟩
theorem Fits.mul {W A B} (ha : Fits W A) (hb : Fits W B) : Fits W (A * B) := by
  obtain ⟨h1, a, k1⟩ := ha
  obtain ⟨h2, b, k2⟩ := hb
  have key : ∀ x, J (h1 x) (h2 x) (jf (h1 x) (h2 x)) := fun x => by
    cases e1 : h1 x with
    | none => exact rfl
    | some v1 =>
      cases e2 : h2 x with
      | none => exact rfl
      | some v2 =>
        have p := k1 x v1 e1
        have q := k2 x v2 e2
        have : v2.2 = v1.2 := Option.some.inj (q.2.symm.trans p.2)
        exact ⟨p.1, Prod.ext (q.1.trans p.1.symm) this, rfl⟩
  refine ⟨fun x => jf (h1 x) (h2 x), ⟨h1, h2, key, a, b⟩, fun x v e => ?_⟩
  have e' : jf (h1 x) (h2 x) = some v := e
  cases e1 : h1 x with
  | none => rw [e1] at e'; exact k2 x v e'
  | some v1 => rw [e1] at e'; exact k1 x v (e1.trans e')
theorem fits_rs {W : World} {a : Option Addr} {l : List Value} (hr : ∀ j v, l[j]? = some v → ∃ ad, a = some ad ∧ W.cell? (ad.add j) = some v) : Fits W (rs a l) := by
  refine ⟨all W, ⟨fun b x e => (of_all e).1, fun w hw j v hj => ?_⟩, fun b v e => of_all e⟩
  obtain ⟨ad, ha, hc⟩ := hr j v hj
  refine ⟨ad, ha, ?_⟩
  rw [← hc]
  have hb : ∃ o, W.heap[(ad.add j).block]? = some o := by
    cases h : W.heap[(ad.add j).block]? with
    | some o => exact ⟨o, rfl⟩
    | none => unfold World.cell? at hc; rw [h] at hc; cases hc
  obtain ⟨o, ho⟩ := hb
  exact World.cell?_of_block ((hw _ false o (all_some ho)).trans ho.symm)
theorem Fits.sat {W A} (h : Fits W A) : Sat W W (A * snap W) := by
  obtain ⟨r, a, k⟩ := h
  refine ⟨rfl, rfl, rfl, ⟨Nat.le_refl _, fun _ => Nat.le_refl _⟩, all W, ⟨r, all W, fun x => ?_, a, fun _ => rfl⟩, fun b p o e => (of_all e).2⟩
  cases e : r x with
  | none => exact rfl
  | some v =>
    have p := k x v e
    have hv : all W x = some v := by rw [all_some p.2]; exact congrArg some (Prod.ext p.1.symm rfl)
    rw [hv]
    exact ⟨p.1, rfl, rfl⟩
theorem law_calls {f : FuncId} {vs : List Value} {H : HP} {X : Type} {v : Value} {pr : X → Prop} {res : X → HP} (hs : Spec P f vs H (fun _ => v) pr res) {W : World} (hf : Fits W H) :
    Calls P f vs.toArray W (fun e w' => e = .returned v ∧ Below W.heap.size W w') := by
  refine (hs W W (snap W) hf.sat).mono ?_
  rintro e w' ⟨x, rfl, _, s⟩
  refine ⟨rfl, s.os, s.tape, s.output, s.size.1, fun b hb => ?_⟩
  obtain ⟨r, hr, hm⟩ := s.drop.mem
  rw [Array.getElem?_eq_getElem hb]
  exact hm b false _ ((hr b).trans (all_some (Array.getElem?_eq_getElem hb)))
/-- What a row's slice of whole numbers reads. -/
theorem fits_ints {W : World} {k : IntKind} {a : Option Addr} {zs : List Int} {len : Nat} (h : ∀ i, i < zs.length → ∃ ad, a = some ad ∧ W.cell? (ad.add i) = some (.int k (zs.getD i 0))) : Fits W (rs a (ints k (zs.take len))) := by
  refine fits_rs fun j v hj => ?_
  have hj' : j < (zs.take len).length := by
    have := (List.getElem?_eq_some_iff.1 hj).1
    simpa [ints] using this
  have hjz : j < zs.length := by simp at hj'; omega
  obtain ⟨ad, ha, hc⟩ := h j hjz
  refine ⟨ad, ha, hc.trans ?_⟩
  rw [← hj, ints]
  simp [List.getElem?_take, hjz]
  simp at hj'; omega
end Go.Proofs.YtcelailgedndnaaGreatS
namespace Go.Proofs.YtcelailgedndnaaGreatS
set_option linter.unusedSectionVars false
variable [DR]
open Go.RowKit Go.ChangeShapes Go.WideShapes
set_option linter.unusedVariables false
theorem row_ints {H : Type} {enc : TypeId × Value → H} {P : Program} {W : World} {base : Nat} {held : Bool} {t e : TypeId} {k : IntKind} {a : Option Addr} {len cap : Nat} {d : DataW H} {ps : List MemPlace} {ts : List TypeId} {ds : List (DataW H)} {j : Nat}
    (hsz : (DataW.weightsEach P ts ds).all (· ≤ reachBytes) = true) (ht : ts[j]? = some t) (hd : ds[j]? = some d) (hu : P.underlying t = some (.slice e)) (he : P.underlying e = some (.int k)) (hc : P.cellsOf e = 1) {B : Nat} (hB : P.bytesOf e = B)
    (h : DataW.Trod enc P W base (fun _ => true) held t (.slice a len cap) d ps) :
    ∃ l : List Int, l.length = len ∧ Fits W (rs a (ints k l)) ∧ (∀ n ∈ l, (Lit.int k n).wf = true) ∧ len ≤ cap ∧ cap ≤ maxLen ∧ cap * B ≤ 140737488351232 := by
  obtain ⟨fuel, hf⟩ := h
  rcases open_ints hu he hc hf with ⟨hcs, _⟩ | ⟨x, l, c, zs, hcs, _, hl, hm, hz, hx, hcell, hwz⟩
  · simp [Value.cells] at hcs
    obtain ⟨rfl, rfl, rfl⟩ := hcs
    exact ⟨[], rfl, fits_rs (fun j v hj => by simp [ints] at hj), fun n hn => (by cases hn), Nat.le_refl _, Nat.zero_le _, by simp⟩
  · simp [Value.cells] at hcs
    obtain ⟨rfl, rfl, rfl⟩ := hcs
    obtain ⟨hx, _⟩ := Prod.mk.inj hx
    subst hx
    simp at hz
    have z := sized_slice hsz ht hd hu
    rw [hB] at z
    have h1 : (lits (H := H) k (zs.take len)).length + (lits (H := H) k (zs.drop len)).length = zs.length := by
      simp [lits]
      omega
    rw [h1, hz] at z
    exact ⟨zs.take len, by simp; omega, fits_ints (fun i hi => ⟨x, rfl, hcell i hi⟩), fun n hn => hwz n (List.mem_of_mem_take hn), hl, hm, z⟩
end Go.Proofs.YtcelailgedndnaaGreatS
namespace Go.Proofs.YtcelailgedndnaaGreatS
set_option linter.unusedSectionVars false
variable [DR]
open Go.RowKit
set_option linter.unusedVariables false
variable {P : Program} {n : Nat} {ops : Array Oper} {rest : List Oper} {e : Env} {H : HP} {d : Nat} {ty : TypeId} {ps : String} {af : Array Edge} {K : Env → Prop}
theorem wanted_of {l : List Oper} {o : Oper} {j t : Nat} {bw b : Bool} {a : Act} (hg : o.guard = some (j, bw)) (hj : (l[j]?).bind (·.dst) = some t) (hn : t < n) (r : Rep n e a) (hb : e t = .bool b) : Region.wanted o (yielded l.toArray a.tmps) = (b == bw) := by
  unfold Region.wanted yielded
  have hs := r.size
  have hv := r.val t
  rw [hb] at hv
  have hlt : t < a.tmps.size := by omega
  have hv2 : a.tmps[t]? = some (.bool b) := by
    simp [hlt] at hv ⊢; exact hv
  rw [hg]
  simp only [List.getElem?_toArray, hj, Option.bind_some, hv2]
  cases b <;> cases bw <;> rfl
theorem qg_yes {l : List Oper} {dd : Option Nat} {op : Op} {j t : Nat} {bw : Bool} (hj : (l[j]?).bind (·.dst) = some t) (hn : t < n) (hb : e t = .bool bw) (h : QO P n l.toArray (⟨dd, op, ty, ps, af, none⟩ :: rest) e H K) :
    QO P n l.toArray (⟨dd, op, ty, ps, af, some (j, bw)⟩ :: rest) e H K := fun a w0 F r => by
  have hy := wanted_of (o := ⟨dd, op, ty, ps, af, some (j, bw)⟩) rfl hj hn r hb
  have h1 := h a w0 F r
  unfold wpQuiet at h1 ⊢
  rw [if_pos (by simp [Region.wanted])] at h1
  rw [if_pos (by rw [hy]; simp)]
  exact h1
theorem qg_no {l : List Oper} {op : Op} {j t : Nat} {bw : Bool} (hj : (l[j]?).bind (·.dst) = some t) (hn : t < n) (hb : e t = .bool (!bw)) (hd : d < n) (h : QO P n l.toArray rest (put e d undef) H K) :
    QO P n l.toArray (⟨some d, op, ty, ps, af, some (j, bw)⟩ :: rest) e H K := fun a w0 F r => by
  have hy := wanted_of (o := ⟨some d, op, ty, ps, af, some (j, bw)⟩) rfl hj hn r hb
  unfold wpQuiet
  rw [if_neg (by rw [hy]; cases bw <;> simp)]
  exact h _ w0 F (r.put hd undef)
theorem qg_undef {l : List Oper} {op : Op} {j t : Nat} {bw : Bool} (hj : (l[j]?).bind (·.dst) = some t) (hb : e t = undef) (hd : d < n) (h : QO P n l.toArray rest (put e d undef) H K) :
    QO P n l.toArray (⟨some d, op, ty, ps, af, some (j, bw)⟩ :: rest) e H K := fun a w0 F r => by
  have hy : Region.wanted ⟨some d, op, ty, ps, af, some (j, bw)⟩ (yielded l.toArray a.tmps) = false := by
    unfold Region.wanted yielded
    have hv := r.val t
    rw [hb] at hv
    simp only [List.getElem?_toArray, hj, Option.bind_some]
    cases h2 : a.tmps[t]? with
    | none => rfl
    | some v =>
      have : v = undef := by simpa [h2] using hv
      subst this; rfl
  unfold wpQuiet
  rw [if_neg (by rw [hy]; simp)]
  exact h _ w0 F (r.put hd undef)
theorem qg_yesT {l : List Oper} {dd : Option Nat} {op : Op} {j t : Nat} {b : Bool} (hj : (l[j]?).bind (·.dst) = some t) (hn : t < n) (hb : e t = .bool b) (hh : b = true) (h : QO P n l.toArray (⟨dd, op, ty, ps, af, none⟩ :: rest) (put e t (.bool true)) H K) :
    QO P n l.toArray (⟨dd, op, ty, ps, af, some (j, true)⟩ :: rest) e H K := by subst hh; rw [put_same hb] at h; exact qg_yes hj hn hb h
theorem qg_yesF {l : List Oper} {dd : Option Nat} {op : Op} {j t : Nat} {b : Bool} (hj : (l[j]?).bind (·.dst) = some t) (hn : t < n) (hb : e t = .bool b) (hh : b = false) (h : QO P n l.toArray (⟨dd, op, ty, ps, af, none⟩ :: rest) (put e t (.bool false)) H K) :
    QO P n l.toArray (⟨dd, op, ty, ps, af, some (j, false)⟩ :: rest) e H K := by subst hh; rw [put_same hb] at h; exact qg_yes hj hn hb h
theorem qg_noT {l : List Oper} {op : Op} {j t : Nat} {b : Bool} (hj : (l[j]?).bind (·.dst) = some t) (hn : t < n) (hb : e t = .bool b) (hh : b = true) (hd : d < n) (h : QO P n l.toArray rest (put (put e t (.bool true)) d undef) H K) :
    QO P n l.toArray (⟨some d, op, ty, ps, af, some (j, false)⟩ :: rest) e H K := by subst hh; rw [put_same hb] at h; exact qg_no hj hn hb hd h
theorem qg_noF {l : List Oper} {op : Op} {j t : Nat} {b : Bool} (hj : (l[j]?).bind (·.dst) = some t) (hn : t < n) (hb : e t = .bool b) (hh : b = false) (hd : d < n) (h : QO P n l.toArray rest (put (put e t (.bool false)) d undef) H K) :
    QO P n l.toArray (⟨some d, op, ty, ps, af, some (j, true)⟩ :: rest) e H K := by subst hh; rw [put_same hb] at h; exact qg_no hj hn hb hd h
theorem qg_split {l : List Oper} {op : Op} {j t : Nat} {bw b : Bool} (hj : (l[j]?).bind (·.dst) = some t) (hn : t < n) (hb : e t = .bool b) (hd : d < n)
    (h1 : b = bw → QO P n l.toArray (⟨some d, op, ty, ps, af, none⟩ :: rest) (put e t (.bool bw)) H K) (h2 : b = !bw → QO P n l.toArray rest (put (put e t (.bool !bw)) d undef) H K) :
    QO P n l.toArray (⟨some d, op, ty, ps, af, some (j, bw)⟩ :: rest) e H K := by
  by_cases h : b = bw
  · subst h
    have := h1 rfl
    rw [put_same hb] at this
    exact qg_yes hj hn hb this
  · have h' : b = !bw := by cases b <;> cases bw <;> simp_all
    subst h'
    have := h2 rfl
    rw [put_same hb] at this
    exact qg_no hj hn hb hd this
theorem q_pick_t {c x y : Operand} {v : Value} (hd : d < n) (hc : ev e c = .bool true) (hx : ev e x = v) (k : QO P n ops rest (put e d v) H K) : QO P n ops (⟨some d, .pick c x y, ty, ps, af, none⟩ :: rest) e H K :=
  q_rfl hd (fun w => by simp only [execOp, hc, hx]; rfl) k
theorem q_pick_f {c x y : Operand} {v : Value} (hd : d < n) (hc : ev e c = .bool false) (hx : ev e y = v) (k : QO P n ops rest (put e d v) H K) : QO P n ops (⟨some d, .pick c x y, ty, ps, af, none⟩ :: rest) e H K :=
  q_rfl hd (fun w => by simp only [execOp, hc, hx]; rfl) k
/-- A loop whose round may leave memory of its own behind. -/
theorem ex_loopE {c : Code} {Φ : Post} (I : Nat → Env → HP → Prop) {m : Nat} {H0 : HP} (h0 : I m e H0) (hE : Ent H H0)
    (round : ∀ m e H, I m e H → Ex P n c e H (andThen (fun e' H' => ∃ m', m' < m ∧ ∃ H2, Ent H' H2 ∧ I m' e' H2) Φ)) : Ex P n (.loop c) e H Φ := by
  refine Ex.ent (ex_loop (fun m e H' => ∃ H2, Ent H' H2 ∧ I m e H2) ⟨H0, Ent.refl _, h0⟩ ?_) hE
  rintro m e H1 ⟨H2, hE2, hi⟩
  exact Ex.ent (round m e H2 hi) hE2
end Go.Proofs.YtcelailgedndnaaGreatS
namespace Go.Proofs.YtcelailgedndnaaGreatS
set_option linter.unusedSectionVars false
variable [DR]
open Go.RowKit
set_option linter.unusedVariables false
section
variable {P : Program} {d : Nat} {xs ys : Array Value} {f : Field} {fs : List Field} {a b : Value} {r s : Bool} {w : World}
/-- The last field that counts. -/
theorem eqf_last (hn : (f.name == "_") = false) (ha : (part f.type xs f.offset).run P w = .ok a w) (hb : (part f.type ys f.offset).run P w = .ok b w) (he : (Op.equalIn d f.type a b).run P w = .ok r w) : (Op.eqFields d xs ys [f]).run P w = .ok r w := by
  have hn' : f.name ≠ "_" := by simpa using hn
  simp only [Op.eqFields, if_pos hn', Sem.run_bind, ha, hb, he, Result.andThen_ok]
  cases r <;> simp
theorem eqf_cons (hn : (f.name == "_") = false) (ha : (part f.type xs f.offset).run P w = .ok a w) (hb : (part f.type ys f.offset).run P w = .ok b w) (he : (Op.equalIn d f.type a b).run P w = .ok r w) (hr : (Op.eqFields d xs ys fs).run P w = .ok s w) : (Op.eqFields d xs ys (f :: fs)).run P w = .ok (r && s) w := by
  have hn' : f.name ≠ "_" := by simpa using hn
  rw [Op.eqFields]
  simp only [if_pos hn', Sem.run_bind, ha, hb, he, Result.andThen_ok]
  cases r
  · simp
  · simpa using hr
/-- The last that counts, behind it such as_ don't. -/
theorem eqf_end (hn : (f.name == "_") = false) (ha : (part f.type xs f.offset).run P w = .ok a w) (hb : (part f.type ys f.offset).run P w = .ok b w) (he : (Op.equalIn d f.type a b).run P w = .ok r w) (hr : (Op.eqFields d xs ys fs).run P w = .ok true w) : (Op.eqFields d xs ys (f :: fs)).run P w = .ok r w := by
  have h := eqf_cons hn ha hb he hr
  rwa [Bool.and_true] at h
/-- A field named _ doesn't count. -/
theorem eqf_skip (hn : (f.name == "_") = true) (hr : (Op.eqFields d xs ys fs).run P w = .ok s w) : (Op.eqFields d xs ys (f :: fs)).run P w = .ok s w := by
  have hn' : ¬ (f.name ≠ "_") := by simpa using hn
  rw [Op.eqFields, if_neg hn']
  exact hr
theorem eqf_nil : (Op.eqFields d xs ys []).run P w = .ok true w := by simp [Op.eqFields]
theorem eqA_of {t : TypeId} {fs : Array Field} (hu : P.underlying t = some (.struct fs)) (hp : P.stoodInHeld t = false) (h : (Op.eqFields d xs ys fs.toList).run P w = .ok r w) : (Op.equalIn (d + 1) t (.agg xs) (.agg ys)).run P w = .ok r w := by
  have hf : P.fieldsOf t = fs := by simp [Program.fieldsOf, hu]
  rw [run_equalIn_struct (P := P) w d t xs ys (by rw [hf]; exact hu) hp, hf]
  exact h
end
section
variable {P : Program} {n : Nat} {ops : Array Oper} {rest : List Oper} {e : Env} {H : HP} {Φ : Post} {d : Nat} {ty : TypeId} {ps : String} {af : Array Edge}
theorem o_eqA {x y : Operand} {xs ys : Array Value} {r : Bool} {t u : TypeId} (hd : d < n) (hx : ev e x = .agg xs) (hy : ev e y = .agg ys) (hg : P.eqGuardType P.depth t = false) (he : ∀ w, (Op.equalIn 10000 t (.agg xs) (.agg ys)).run P w = .ok r w)
    (k : Ops P n ops rest (put e d (.bool r)) H Φ) : Ops P n ops (⟨some d, .binOp .eql t x y u, ty, ps, af, none⟩ :: rest) e H Φ :=
  o_rfl hd (fun w => by simp only [execOp, hx, hy, Sem.run_bind, run_eqGuard_agg w _ _ _ _ _ _ hg, run_eql_struct, he, Result.andThen_ok]; rfl) k
theorem o_neA {x y : Operand} {xs ys : Array Value} {r : Bool} {t u : TypeId} (hd : d < n) (hx : ev e x = .agg xs) (hy : ev e y = .agg ys) (hg : P.eqGuardType P.depth t = false) (he : ∀ w, (Op.equalIn 10000 t (.agg xs) (.agg ys)).run P w = .ok r w)
    (k : Ops P n ops rest (put e d (.bool !r)) H Φ) : Ops P n ops (⟨some d, .binOp .neq t x y u, ty, ps, af, none⟩ :: rest) e H Φ :=
  o_rfl hd (fun w => by simp only [execOp, hx, hy, Sem.run_bind, run_eqGuard_agg w _ _ _ _ _ _ hg, run_neq_struct, he, Result.andThen_ok]; rfl) k
theorem o_eqB {x y : Operand} {a b : Bool} {t u : TypeId} (hd : d < n) (hx : ev e x = .bool a) (hy : ev e y = .bool b) (hu : P.underlying t = some .bool) (k : Ops P n ops rest (put e d (.bool (a == b))) H Φ) : Ops P n ops (⟨some d, .binOp .eql t x y u, ty, ps, af, none⟩ :: rest) e H Φ :=
  o_rfl hd (fun w => by simp only [execOp, hx, hy, Sem.run_bind, show ∀ w, (eqGuard .eql t x y (.bool a) (.bool b)).run P w = .ok () w from fun _ => rfl, run_eql_bool w t a b hu, Result.andThen_ok]; rfl) k
theorem o_neB {x y : Operand} {a b : Bool} {t u : TypeId} (hd : d < n) (hx : ev e x = .bool a) (hy : ev e y = .bool b) (hu : P.underlying t = some .bool) (k : Ops P n ops rest (put e d (.bool !(a == b))) H Φ) : Ops P n ops (⟨some d, .binOp .neq t x y u, ty, ps, af, none⟩ :: rest) e H Φ :=
  o_rfl hd (fun w => by simp only [execOp, hx, hy, Sem.run_bind, show ∀ w, (eqGuard .neq t x y (.bool a) (.bool b)).run P w = .ok () w from fun _ => rfl, run_neq_bool w t a b hu, Result.andThen_ok]; rfl) k
end
end Go.Proofs.YtcelailgedndnaaGreatS
namespace Go.Proofs.YtcelailgedndnaaGreatS
set_option linter.unusedSectionVars false
variable [DR]
open Go.RowKit
set_option linter.unusedVariables false
set_option linter.unusedSimpArgs false
variable {P : Program} {n : Nat} {ops : Array Oper} {rest : List Oper} {e : Env} {H : HP} {Φ : Post} {d : Nat} {ty : TypeId} {ps : String} {af : Array Edge}
theorem run_slice {x : Operand} {a : Option Addr} {len cap st el sz bt : Nat} {z : List Value} {lo hi : Option Operand} {l h : Nat} [f : Slc P st el sz bt z] (hx : ev e x = .slice a len cap)
    (hh : match hi with | none => h = len | some y => ∃ k i, ev e y = .int k i ∧ 0 ≤ i ∧ i ≤ cap ∧ i.toNat = h) (hl : match lo with | none => l = 0 | some y => ∃ k i, ev e y = .int k i ∧ 0 ≤ i ∧ i ≤ h ∧ i.toNat = l) (w : World) :
    (execOp (ev e) ⟨some d, .slice st x lo hi none, ty, ps, af, none⟩).run P w = .ok (.value (.slice (if cap = l then a else a.map (·.add (l * sz))) (h - l) (cap - l))) w := by
  simp only [execOp, hx]
  have hb : (Instr.sliceBounds true len cap (lo.map (ev e)) (hi.map (ev e)) none).run P w = .ok (l, h, cap) w := by
    cases hi with
    | none =>
      subst hh
      cases lo with
      | none => subst hl; simp [Instr.sliceBounds]
      | some y => obtain ⟨k, i, h1, h2, h3, h4⟩ := hl; simp [Instr.sliceBounds, Instr.sliceBound, h1, asIntOf, h2, h3, h4]
    | some y0 =>
      obtain ⟨k0, i0, g1, g2, g3, g4⟩ := hh
      cases lo with
      | none => subst hl; simp [Instr.sliceBounds, Instr.sliceBound, g1, asIntOf, g2, g3, g4]
      | some y => obtain ⟨k, i, h1, h2, h3, h4⟩ := hl; simp [Instr.sliceBounds, Instr.sliceBound, g1, g2, g3, g4, h1, asIntOf, h2, h3, h4]
  simp [Instr.sliceAt, Instr.slice, run_underlying f.und, hb, f.size]
theorem read_slice {a : Option Addr} {cap sz l h : Nat} {cs : List Value} (hc : h ≤ cap) (H' : HP) [hr : RdC H' a cs] : RdC H' (if cap = l then a else a.map (·.add (l * sz))) ((cs.drop (l * sz)).take ((h - l) * sz)) := by
  refine ⟨?_⟩
  by_cases hcl : cap = l
  · have h0 : h - l = 0 := by omega
    rw [if_pos hcl, h0]
    simp only [Nat.zero_mul, List.take_zero]
    exact fun _ _ _ _ j v hj => by simp at hj
  · rw [if_neg hcl]
    have := hr.rd.cut (lo := l * sz) (hi := (h - l) * sz) false
    simpa using this
section
variable {k k2 : IntKind} {xs : List Int} {x y : Operand} {a : Option Addr} {cap st el bt t : Nat} {z : List Value}
theorem run_drop [f : Slc P st el 1 bt z] (hx : ev e x = .slice a xs.length cap) (hy : ev e y = .int k2 (t : Int)) (ht : t ≤ xs.length) (hc : xs.length ≤ cap) :
    ∃ a' ck, (∀ H' [RdC H' a (ints k xs)], RdC H' a' (ints k (xs.drop t))) ∧ ∀ w, (execOp (ev e) ⟨some d, .slice st x (some y) none none, ty, ps, af, none⟩).run P w = .ok (.value (.slice a' (xs.drop t).length ck)) w := by
  refine ⟨if cap = t then a else a.map (·.add (t * 1)), cap - t, fun H' hr => ?_, fun w => ?_⟩
  rotate_left
  · rw [run_slice (lo := some y) (hi := none) (l := t) (h := xs.length) (f := f) hx rfl ⟨_, _, hy, by omega, by omega, by omega⟩ w, List.length_drop]
  · have := read_slice (a := a) (cap := cap) (sz := 1) (l := t) (h := xs.length) (cs := ints k xs) hc H'
    have e1 : (List.drop (t * 1) (ints k xs)).take ((xs.length - t) * 1) = ints k (xs.drop t) := by
      rw [Nat.mul_one, Nat.mul_one, ← List.length_drop]; simp only [ints, ← List.map_drop]; rw [List.take_of_length_le (by simp)]
    rw [e1] at this; exact this
theorem run_take [f : Slc P st el 1 bt z] (hx : ev e x = .slice a xs.length cap) (hy : ev e y = .int k2 (t : Int)) (ht : t ≤ xs.length) (hc : xs.length ≤ cap) :
    ∃ a' ck, (∀ H' [RdC H' a (ints k xs)], RdC H' a' (ints k (xs.take t))) ∧ ∀ w, (execOp (ev e) ⟨some d, .slice st x none (some y) none, ty, ps, af, none⟩).run P w = .ok (.value (.slice a' (xs.take t).length ck)) w := by
  refine ⟨if cap = 0 then a else a.map (·.add (0 * 1)), cap - 0, fun H' hr => ?_, fun w => ?_⟩
  rotate_left
  · rw [run_slice (lo := none) (hi := some y) (l := 0) (h := t) (f := f) hx ⟨_, _, hy, by omega, by omega, by omega⟩ rfl w, List.length_take, Nat.min_eq_left ht, Nat.sub_zero]
  · have := read_slice (a := a) (cap := cap) (sz := 1) (l := 0) (h := t) (cs := ints k xs) (by omega) H'
    have e1 : (List.drop (0 * 1) (ints k xs)).take ((t - 0) * 1) = ints k (xs.take t) := by
      simp [ints]
    rw [e1] at this; exact this
theorem o_drop [f : Slc P st el 1 bt z] (hd : d < n) (hx : ev e x = .slice a xs.length cap) (hy : ev e y = .int k2 (t : Int)) (ht : t ≤ xs.length) (hc : xs.length ≤ cap)
    (c : ∀ a' ck, (∀ H' [RdC H' a (ints k xs)], RdC H' a' (ints k (xs.drop t))) → Ops P n ops rest (put e d (.slice a' (xs.drop t).length ck)) H Φ) : Ops P n ops (⟨some d, .slice st x (some y) none none, ty, ps, af, none⟩ :: rest) e H Φ := by
  obtain ⟨a', ck, hr, h⟩ := run_drop (P := P) (f := f) (d := d) (ty := ty) (ps := ps) (af := af) (k := k) hx hy ht hc
  exact o_rfl hd h (c a' ck hr)
theorem o_take [f : Slc P st el 1 bt z] (hd : d < n) (hx : ev e x = .slice a xs.length cap) (hy : ev e y = .int k2 (t : Int)) (ht : t ≤ xs.length) (hc : xs.length ≤ cap)
    (c : ∀ a' ck, (∀ H' [RdC H' a (ints k xs)], RdC H' a' (ints k (xs.take t))) → Ops P n ops rest (put e d (.slice a' (xs.take t).length ck)) H Φ) : Ops P n ops (⟨some d, .slice st x none (some y) none, ty, ps, af, none⟩ :: rest) e H Φ := by
  obtain ⟨a', ck, hr, h⟩ := run_take (P := P) (f := f) (d := d) (ty := ty) (ps := ps) (af := af) (k := k) hx hy ht hc
  exact o_rfl hd h (c a' ck hr)
section
variable {K : Env → HP → Prop} {fuel : Nat} {listed : Array Bool}
theorem oa_mv (i : Nat) {v : Value} (hi : ops[i]? = some ⟨some d, .move x, ty, ps, af, none⟩) (hns : Region.noSelect ops = true) (hfree : Region.free .any ops listed i = true) (hready : (Region.ready .any ops listed).contains i = true) (hd : d < n) (hx : ev e x = v)
    (c : OA P n ops fuel (listed.setIfInBounds i true) (put e d v) H K) : OA P n ops (fuel + 1) listed e H K := oa_first i hi hns hfree hready hd (fun _ => by simp only [execOp, hx]; rfl) c
theorem oa_drop (i : Nat) [f : Slc P st el 1 bt z] (hi : ops[i]? = some ⟨some d, .slice st x (some y) none none, ty, ps, af, none⟩) (hns : Region.noSelect ops = true) (hfree : Region.free .any ops listed i = true) (hready : (Region.ready .any ops listed).contains i = true) (hd : d < n)
    (hx : ev e x = .slice a xs.length cap) (hy : ev e y = .int k2 (t : Int)) (ht : t ≤ xs.length) (hc : xs.length ≤ cap)
    (c : ∀ a' ck, (∀ H' [RdC H' a (ints k xs)], RdC H' a' (ints k (xs.drop t))) → OA P n ops fuel (listed.setIfInBounds i true) (put e d (.slice a' (xs.drop t).length ck)) H K) : OA P n ops (fuel + 1) listed e H K := by
  obtain ⟨a', ck, hr, h⟩ := run_drop (P := P) (f := f) (d := d) (ty := ty) (ps := ps) (af := af) (k := k) hx hy ht hc
  exact oa_first i hi hns hfree hready hd h (c a' ck hr)
theorem oa_take (i : Nat) [f : Slc P st el 1 bt z] (hi : ops[i]? = some ⟨some d, .slice st x none (some y) none, ty, ps, af, none⟩) (hns : Region.noSelect ops = true) (hfree : Region.free .any ops listed i = true) (hready : (Region.ready .any ops listed).contains i = true) (hd : d < n)
    (hx : ev e x = .slice a xs.length cap) (hy : ev e y = .int k2 (t : Int)) (ht : t ≤ xs.length) (hc : xs.length ≤ cap)
    (c : ∀ a' ck, (∀ H' [RdC H' a (ints k xs)], RdC H' a' (ints k (xs.take t))) → OA P n ops fuel (listed.setIfInBounds i true) (put e d (.slice a' (xs.take t).length ck)) H K) : OA P n ops (fuel + 1) listed e H K := by
  obtain ⟨a', ck, hr, h⟩ := run_take (P := P) (f := f) (d := d) (ty := ty) (ps := ps) (af := af) (k := k) hx hy ht hc
  exact oa_first i hi hns hfree hready hd h (c a' ck hr)
end
end
theorem ex_anyk {id : Nat} {l : List Oper} {ts : List Nat} [m : Mixed P] {k : Nat} (hk : l.length = k) (h : OA P n l.toArray k (Array.replicate k false) e H (fun e' H' => keepP ts Φ .normal e' H')) : Ex P n (.region id l.toArray true) e H Φ := keep_mono (ex_any hk h)
theorem oa_donek {ts : List Nat} {listed : Array Bool} (hr : Region.ready .any ops listed = []) (h : ∀ g, keepN ts e g (fun e' => Φ .normal e' H)) : OA P n ops 0 listed e H (fun e' H' => keepP ts Φ .normal e' H') := oa_done hr ⟨rfl, h⟩
theorem oa_nil {K : Env → HP → Prop} {fuel : Nat} {listed : Array Bool} (h : OA P n ops fuel listed e H K) : Ops P n ops [] e H (fun x e' H' => x = .normal ∧ OA P n ops fuel listed e' H' K) := ops_nil ⟨rfl, h⟩
theorem Ex.ow_cap {el sz : Nat} {a : Option Addr} {m cap : Nat} {l : List Value} {R : HP} [ho : HasO H el sz a m cap l R] {c : Code} (k : m ≤ cap → Ex P n c e H Φ) : Ex P n c e H Φ := fun x w0 w F r s => by
  have s1 := ho.ent _ _ _ s
  rw [sep_assoc] at s1
  exact k (ow_cases s1).2.1 x w0 w F r s
end Go.Proofs.YtcelailgedndnaaGreatS
namespace Go.Proofs.YtcelailgedndnaaGreatS
set_option linter.unusedSectionVars false
variable [DR]
open Go.RowKit
set_option linter.unusedVariables false
variable {P : Program} {n : Nat} {ops : Array Oper} {rest : List Oper} {e : Env} {H : HP} {Φ : Post} {d : Nat} {ty : TypeId} {ps : String} {af : Array Edge}
theorem ops_inl {f : FuncId} {fn : Func} {c : Code} {m : Nat} {l : List Operand} {ats : Array TypeId} {vs : List Value} {dd : Option Nat} {cf : Operand} [g : Goes P f] (hd : dOk n dd) (hcf : ev e cf = .func (.func f) #[] #[]) (hv : l.map (ev e) = vs)
    (hf : P.funcs[f]? = some fn) (hb : fn.body = some c) (hn : fn.ntmps = m) (hl : Nat.ble vs.length m = true)
    (h : Ex P m c (envOf vs) H (fun x e' H' => (x = .normal ∨ x = .ret) ∧ ∃ v, V P (resl fn e') H' v ∧ Ops P n ops rest (putO e dd v) H' Φ)) :
    Ops P n ops (⟨dd, .call { callee := .value cf, args := l.toArray, argTypes := ats }, ty, ps, af, none⟩ :: rest) e H Φ := fun a w0 w F r s =>
  wpList_plain rfl fun K hK => by
    subst hn
    have hl := Nat.le_of_ble_eq_true hl
    unfold Oper.wp
    have hx : (execOp a.eval ⟨dd, .call { callee := .value cf, args := l.toArray, argTypes := ats }, ty, ps, af, none⟩).run P w = .ok (.enter f vs.toArray) w := by
      rw [r.eval]
      simp only [execOp, resolve, hcf, Deferred.ofValue, invoke, List.map_toArray, hv]
      simp [run_call]
    rw [hx]
    simp only [Oper.upon]
    have hc : Calls P f vs.toArray w (fun e' w' => ∃ v H', e' = .returned v ∧ Ops P n ops rest (putO e dd v) H' Φ ∧ Sat w0 w' (H' * F)) := by
      refine calls_of_wp hf hb ?_
      refine wp_mono (h _ w0 w F ⟨by simp; omega, rfl, fun t => ?_⟩ s) ?_
      · simp only [envOf, Array.getD_eq_getD_getElem?, List.getD_eq_getElem?_getD]
        by_cases ht : t < vs.length
        · rw [Array.getElem?_append_left (by simpa using ht)]; simp
        · rw [Array.getElem?_append_right (by simpa using ht)]
          have e1 : vs[t]? = none := by simp; omega
          rw [e1]
          by_cases ht2 : t - vs.length < fn.ntmps - vs.length
          · simp [ht2]
          · simp [ht2]
      · rintro x a' w' ⟨e', H', r', ⟨hx, y, hv, ho⟩, s'⟩
        have hr := hv w0 w' F s'
        rw [← resl_eq r'] at hr
        have : bodyPost P fn (fun e' w' => ∃ v H', e' = .returned v ∧ Ops P n ops rest (putO e dd v) H' Φ ∧ Sat w0 w' (H' * F)) .ret a' w' := ⟨r'.defers, _, hr, y, H', rfl, ho, s'⟩
        rcases hx with rfl | rfl
        · exact this
        · exact this
    refine hc.mono ?_
    rintro e' w' ⟨v, H', rfl, ho, s'⟩
    exact hK _ _ (ho _ w0 w' F (r.putO hd _) s')
theorem fini {x : Exit} {fn : Func} {v : Value} {K : Value → HP → Prop} (hx : x = .normal ∨ x = .ret) (h1 : V P (resl fn e) H v) (h2 : K v H) : (x = .normal ∨ x = .ret) ∧ ∃ v, V P (resl fn e) H v ∧ K v H := ⟨hx, v, h1, h2⟩
theorem finO {x : Exit} {fn : Func} {v : Value} {e0 : Env} {dd : Option Nat} (hx : x = .normal ∨ x = .ret) (h1 : V P (resl fn e) H v) (h2 : Ops P n ops rest (putO e0 dd v) H Φ) : (x = .normal ∨ x = .ret) ∧ ∃ v, V P (resl fn e) H v ∧ Ops P n ops rest (putO e0 dd v) H Φ := ⟨hx, v, h1, h2⟩
/-- A loop that makes at most so many rounds. -/
def Rn (P : Program) (n : Nat) (c : Code) (Φ : Post) : Nat → Env → HP → Prop
  | 0, _, _ => False
  | k + 1, e, H => Ex P n c e H (andThen (Rn P n c Φ k) Φ)
theorem ex_rounds {c : Code} (k : Nat) (h : Rn P n c Φ k e H) : Ex P n (.loop c) e H Φ := by
  refine ex_loop (fun m e H => Rn P n c Φ m e H) h ?_
  intro m e H hm
  cases m with
  | zero => exact hm.elim
  | succ m =>
    refine Ex.mono (Ψ := andThen (Rn P n c Φ m) Φ) hm ?_
    intro x e H hx
    cases x <;> first | exact hx | exact ⟨m, Nat.lt_succ_self m, hx⟩
theorem rn_succ {c : Code} {k : Nat} (h : Ex P n c e H (andThen (Rn P n c Φ k) Φ)) : Rn P n c Φ (k + 1) e H := h
/-- A row that is not empty: it has a place, and room. -/
theorem o_appendS {x y : Operand} {st el sz bt : Nat} {z : List Value} [f : Slc P st el sz bt z] {a b : Option Addr} {m cap k ck : Nat} {l news : List Value} {R : HP} {u : Array TypeId} (hd : d < n) (hx : ev e x = .slice a m cap) (hy : ev e y = .slice b k ck) (hu : u = #[st, st])
    [ho : HasO H el sz a m cap l R] [hrd : RdC R b news] (hl : news.length = k * sz) (h1 : ∀ v ∈ news, v.oneCell' = true) (hb : (m + k) * bt ≤ 140737488355328) (hk : m + k ≤ maxLen) (hp : 0 < m + k)
    (c : ∀ g cap', m + k ≤ cap' → Ops P n ops rest (put e d (.slice (some ⟨g, 0, none⟩) (m + k) cap')) (ow el sz (some ⟨g, 0, none⟩) (m + k) cap' (l ++ news) * R) Φ) : Ops P n ops (⟨some d, .call ⟨.builtin .append, #[x, y], u⟩, ty, ps, af, none⟩ :: rest) e H Φ := by
  refine o_append hd hx hy hu hl h1 hb hk (fun a' cap' => ?_)
  intro x w0 w F r s
  have s1 := s
  rw [sep_assoc] at s1
  obtain ⟨_, h2, _, ⟨h3, _⟩ | ⟨g, cur, rfl, _⟩⟩ := ow_cases s1
  · omega
  · exact c g cap' h2 x w0 w F r s
theorem o_sliceS {x : Operand} {a : Option Addr} {len cap st el sz bt : Nat} {z : List Value} {lo hi : Option Operand} {l h : Nat} {cs : List Value} [f : Slc P st el sz bt z] [hrd : RdC H a cs] (hd : d < n) (hx : ev e x = .slice a len cap)
    (hh : match hi with | none => h = len | some y => ∃ k i, ev e y = .int k i ∧ 0 ≤ i ∧ i ≤ cap ∧ i.toNat = h) (hl : match lo with | none => l = 0 | some y => ∃ k i, ev e y = .int k i ∧ 0 ≤ i ∧ i ≤ h ∧ i.toNat = l) (hc : h ≤ cap) (hp : 0 < ((cs.drop (l * sz)).take ((h - l) * sz)).length)
    (c : ∀ ad, (∀ H' [RdC H' a cs], RdC H' (some ad) ((cs.drop (l * sz)).take ((h - l) * sz))) → Ops P n ops rest (put e d (.slice (some ad) (h - l) (cap - l))) H Φ) : Ops P n ops (⟨some d, .slice st x lo hi none, ty, ps, af, none⟩ :: rest) e H Φ := by
  refine o_slice_r (l := l) (h := h) hd hx hh hl hc (fun a' hr => ?_)
  have hr1 := hr H
  refine Ops.rd_some (a := a') (l := (cs.drop (l * sz)).take ((h - l) * sz)) hp (fun ad ha => ?_)
  subst ha
  exact c ad hr
theorem o_eqSN {x : Operand} {a : Option Addr} {len cap t el u : Nat} (hd : d < n) (hx : ev e x = .slice a len cap) (hu : P.underlying t = some (.slice el)) (k : Ops P n ops rest (put e d (.bool a.isNone)) H Φ) :
    Ops P n ops (⟨some d, .binOp .eql t x (.const (.slice none 0 0)) u, ty, ps, af, none⟩ :: rest) e H Φ :=
  o_rfl hd (fun w => by
    have hc : ev e (.const (.slice none 0 0)) = .slice none 0 0 := rfl
    have hg : ∀ w, (eqGuard .eql t x (.const (.slice none 0 0)) (.slice a len cap) (.slice none 0 0)).run P w = .ok () w := fun _ => rfl
    have hq : (binOp .eql t (.slice a len cap) (.slice none 0 0)).run P w = .ok (.bool a.isNone) w := by
      simp only [binOp]
      simp [run_equal_slice_nil w t el a len cap hu]
    simp only [execOp, hx, hc, Sem.run_bind, hg, hq, Result.andThen_ok]; rfl) k
theorem o_neSN {x : Operand} {a : Option Addr} {len cap t el u : Nat} (hd : d < n) (hx : ev e x = .slice a len cap) (hu : P.underlying t = some (.slice el)) (k : Ops P n ops rest (put e d (.bool !a.isNone)) H Φ) :
    Ops P n ops (⟨some d, .binOp .neq t x (.const (.slice none 0 0)) u, ty, ps, af, none⟩ :: rest) e H Φ :=
  o_rfl hd (fun w => by
    have hc : ev e (.const (.slice none 0 0)) = .slice none 0 0 := rfl
    have hg : ∀ w, (eqGuard .neq t x (.const (.slice none 0 0)) (.slice a len cap) (.slice none 0 0)).run P w = .ok () w := fun _ => rfl
    simp only [execOp, hx, hc, Sem.run_bind, hg, run_neq_slice_nil w t el a len cap hu, Result.andThen_ok]; rfl) k
section
variable {K : Env → Prop}
theorem q_eqA {x y : Operand} {xs ys : Array Value} {r : Bool} {t u : TypeId} (hd : d < n) (hx : ev e x = .agg xs) (hy : ev e y = .agg ys) (hg : P.eqGuardType P.depth t = false) (he : ∀ w, (Op.equalIn 10000 t (.agg xs) (.agg ys)).run P w = .ok r w)
    (k : QO P n ops rest (put e d (.bool r)) H K) : QO P n ops (⟨some d, .binOp .eql t x y u, ty, ps, af, none⟩ :: rest) e H K :=
  q_rfl hd (fun w => by simp only [execOp, hx, hy, Sem.run_bind, run_eqGuard_agg w _ _ _ _ _ _ hg, run_eql_struct, he, Result.andThen_ok]; rfl) k
theorem q_neA {x y : Operand} {xs ys : Array Value} {r : Bool} {t u : TypeId} (hd : d < n) (hx : ev e x = .agg xs) (hy : ev e y = .agg ys) (hg : P.eqGuardType P.depth t = false) (he : ∀ w, (Op.equalIn 10000 t (.agg xs) (.agg ys)).run P w = .ok r w)
    (k : QO P n ops rest (put e d (.bool !r)) H K) : QO P n ops (⟨some d, .binOp .neq t x y u, ty, ps, af, none⟩ :: rest) e H K :=
  q_rfl hd (fun w => by simp only [execOp, hx, hy, Sem.run_bind, run_eqGuard_agg w _ _ _ _ _ _ hg, run_neq_struct, he, Result.andThen_ok]; rfl) k
end
end Go.Proofs.YtcelailgedndnaaGreatS
namespace Go.Proofs.YtcelailgedndnaaGreatS
set_option linter.unusedSectionVars false
variable [DR]
open Go.RowKit Go.ChangeShapes Go.WideShapes
set_option linter.unusedVariables false
set_option linter.unusedSimpArgs false
section
variable {α : Type} {cells : α → List Value} {sz : Nat}
theorem flat_len (h : ∀ x, (cells x).length = sz) (l : List α) : (l.flatMap cells).length = l.length * sz := by
  induction l with
  | nil => simp
  | cons x t ih => simp [ih, h, Nat.succ_mul, Nat.add_comm]
theorem flat_drop (h : ∀ x, (cells x).length = sz) (l : List α) (i : Nat) : (l.flatMap cells).drop (i * sz) = (l.drop i).flatMap cells := by
  induction i generalizing l with
  | zero => simp
  | succ i ih =>
    cases l with
    | nil => simp
    | cons x t =>
      rw [List.flatMap_cons, List.drop_succ_cons, ← ih t, Nat.succ_mul, Nat.add_comm, ← List.drop_drop]
      congr 1
      rw [← h x]; exact List.drop_left
theorem flat_take (h : ∀ x, (cells x).length = sz) (l : List α) (i : Nat) : (l.flatMap cells).take (i * sz) = (l.take i).flatMap cells := by
  induction i generalizing l with
  | zero => simp
  | succ i ih =>
    cases l with
    | nil => simp
    | cons x t =>
      rw [List.flatMap_cons, List.take_succ_cons, List.flatMap_cons, ← ih t, Nat.succ_mul, Nat.add_comm, ← h x, List.take_length_add_append]
theorem flat_sub (h : ∀ x, (cells x).length = sz) (l : List α) (i : Nat) (hi : i < l.length) : ((l.flatMap cells).drop (i * sz)).take sz = cells l[i] := by
  rw [flat_drop h, List.drop_eq_getElem_cons hi, List.flatMap_cons, ← h l[i]]
  exact List.take_left
theorem flat_get (h : ∀ x, (cells x).length = sz) (hp : 0 < sz) (l : List α) (j : Nat) (v : Value) (hj : (l.flatMap cells)[j]? = some v) : ∃ x, l[j / sz]? = some x ∧ (cells x)[j % sz]? = some v := by
  have hlt : j < l.length * sz := by rw [← flat_len h]; exact (List.getElem?_eq_some_iff.1 hj).1
  have hi : j / sz < l.length := Nat.div_lt_of_lt_mul (by rw [Nat.mul_comm]; exact hlt)
  refine ⟨l[j / sz], List.getElem?_eq_getElem hi, ?_⟩
  rw [← flat_sub h l (j / sz) hi, List.getElem?_take, if_pos (Nat.mod_lt _ hp), List.getElem?_drop, ← hj]
  congr 1
  rw [Nat.mul_comm]; exact Nat.div_add_mod j sz
theorem row_typed {H : Type} {enc : TypeId × Value → H} {P : Program} {W : World} {base : Nat} {held : Bool} {t e : TypeId} {a : Option Addr} {len cap : Nat} {d : DataW H} {ps : List MemPlace} {ts : List TypeId} {ds : List (DataW H)} {j : Nat}
    (hlen : ∀ x, (cells x).length = sz) (hp : 0 < sz) {good : α → Prop} (shape : ∀ n cs y, DataW.trod enc P W base (fun _ => true) held n e cs = some y → ∃ x, cs = cells x ∧ good x)
    (hsz : (DataW.weightsEach P ts ds).all (· ≤ reachBytes) = true) (ht : ts[j]? = some t) (hd : ds[j]? = some d) (hu : P.underlying t = some (.slice e)) (hc : P.cellsOf e = sz) {B : Nat} (hB : P.bytesOf e = B)
    (h : DataW.Trod enc P W base (fun _ => true) held t (.slice a len cap) d ps) :
    ∃ l : List α, l.length = len ∧ Fits W (rs a (l.flatMap cells)) ∧ (∀ x ∈ l, good x) ∧ len ≤ cap ∧ cap ≤ maxLen ∧ cap * B ≤ 140737488351232 := by
  obtain ⟨fuel, hf⟩ := h
  rcases DataW.trod_slice hu hf with ⟨hcs, _⟩ | ⟨x, l, c, elems, rest, n, _, hcs, hx, hb, hl, hm, hle, hel, hsp, _⟩
  · simp [Value.cells] at hcs
    obtain ⟨rfl, rfl, rfl⟩ := hcs
    exact ⟨[], rfl, fits_rs (fun j v hj => by simp at hj), fun n hn => (by cases hn), Nat.le_refl _, Nat.zero_le _, by simp⟩
  · simp [Value.cells] at hcs
    obtain ⟨rfl, rfl, rfl⟩ := hcs
    have hdx : d = .slice (elems.map (·.1)) (rest.map (·.1)) := congrArg Prod.fst hx
    subst hdx
    have hr := (hsp rfl).1
    have z := sized_slice hsz ht hd hu
    rw [hB] at z
    have z2 : cap * B ≤ 140737488351232 := by
      simp only [List.length_map, hle, hr] at z
      rw [show len + (cap - len) = cap by omega] at z
      exact z
    have key : ∀ k, k ≤ len → ∃ l : List α, l.length = k ∧ (∀ i x', l[i]? = some x' → (∀ r v, (cells x')[r]? = some v → W.cell? (x.add (i * sz + r)) = some v) ∧ good x') := by
      intro k
      induction k with
      | zero => intro _; exact ⟨[], rfl, fun i x' hx' => by simp at hx'⟩
      | succ k ih =>
        intro hk
        obtain ⟨l0, hl0, h0⟩ := ih (by omega)
        have he := hel k (by omega)
        rw [List.getElem?_eq_getElem (by omega), Option.bind_eq_some_iff] at he
        obtain ⟨cs, hcs, hy⟩ := he
        obtain ⟨x', rfl, hg⟩ := shape _ _ _ hy
        refine ⟨l0 ++ [x'], by simp [hl0], fun i u hq => ?_⟩
        by_cases hi : i < l0.length
        · rw [List.getElem?_append_left hi] at hq; exact h0 i u hq
        · have hik : i = k := by
            have := (List.getElem?_eq_some_iff.1 hq).1
            simp at this; omega
          subst hik
          rw [List.getElem?_append_right (by omega), hl0, Nat.sub_self] at hq
          obtain rfl : x' = u := by simpa using hq
          refine ⟨fun r v hv => ?_, hg⟩
          rw [hc] at hcs
          have hrl : r < sz := by rw [← hlen x']; exact (List.getElem?_eq_some_iff.1 hv).1
          have := (World.cells?_some hcs).2.2 r hrl
          rw [← add_add, this, hv]
    obtain ⟨l, hl', hall⟩ := key len (Nat.le_refl _)
    refine ⟨l, hl', fits_rs (fun j v hj => ?_), fun x' hx' => ?_, hl, hm, z2⟩
    · obtain ⟨x', hx', hv⟩ := flat_get hlen hp l j v hj
      refine ⟨x, rfl, ?_⟩
      have := (hall _ _ hx').1 _ _ hv
      rw [show j / sz * sz + j % sz = j by rw [Nat.mul_comm]; exact Nat.div_add_mod j sz] at this
      exact this
    · obtain ⟨i, hi⟩ := List.getElem?_of_mem hx'
      exact (hall i x' hi).2
end
end Go.Proofs.YtcelailgedndnaaGreatS
namespace Go.Proofs.YtcelailgedndnaaGreatS
set_option linter.unusedSectionVars false
variable [DR]
open Go.RowKit
set_option linter.unusedVariables false
set_option linter.unusedSimpArgs false
variable {P : Program} {n : Nat} {ops : Array Oper} {rest : List Oper} {e : Env} {H : HP} {Φ : Post} {d : Nat} {ty : TypeId} {ps : String} {af : Array Edge}
section
variable {α : Type} {cells : α → List Value} {sz : Nat} {k2 : IntKind} {xs ys : List α} {x y : Operand} {a b : Option Addr} {cap st el bt t ck : Nat} {z : List Value}
theorem run_dropT (hc0 : ∀ x, (cells x).length = sz) [f : Slc P st el sz bt z] (hx : ev e x = .slice a xs.length cap) (hy : ev e y = .int k2 (t : Int)) (ht : t ≤ xs.length) (hc : xs.length ≤ cap) :
    ∃ a', (∀ H' [RdC H' a (xs.flatMap cells)], RdC H' a' ((xs.drop t).flatMap cells)) ∧ ∀ w, (execOp (ev e) ⟨some d, .slice st x (some y) none none, ty, ps, af, none⟩).run P w = .ok (.value (.slice a' (xs.drop t).length (cap - t))) w := by
  refine ⟨if cap = t then a else a.map (·.add (t * sz)), fun H' hr => ?_, fun w => ?_⟩
  rotate_left
  · rw [run_slice (lo := some y) (hi := none) (l := t) (h := xs.length) (f := f) hx rfl ⟨_, _, hy, by omega, by omega, by omega⟩ w, List.length_drop]
  · have := read_slice (a := a) (cap := cap) (sz := sz) (l := t) (h := xs.length) (cs := xs.flatMap cells) hc H'
    have e1 : (List.drop (t * sz) (xs.flatMap cells)).take ((xs.length - t) * sz) = (xs.drop t).flatMap cells := by
      rw [flat_drop hc0, flat_take hc0, List.take_of_length_le (by simp)]
    rw [e1] at this; exact this
theorem run_takeT (hc0 : ∀ x, (cells x).length = sz) [f : Slc P st el sz bt z] (hx : ev e x = .slice a xs.length cap) (hy : ev e y = .int k2 (t : Int)) (ht : t ≤ xs.length) (hc : xs.length ≤ cap) :
    ∃ a', (∀ H' [RdC H' a (xs.flatMap cells)], RdC H' a' ((xs.take t).flatMap cells)) ∧ ∀ w, (execOp (ev e) ⟨some d, .slice st x none (some y) none, ty, ps, af, none⟩).run P w = .ok (.value (.slice a' (xs.take t).length cap)) w := by
  refine ⟨if cap = 0 then a else a.map (·.add (0 * sz)), fun H' hr => ?_, fun w => ?_⟩
  rotate_left
  · rw [run_slice (lo := none) (hi := some y) (l := 0) (h := t) (f := f) hx ⟨_, _, hy, by omega, by omega, by omega⟩ rfl w, List.length_take, Nat.min_eq_left ht, Nat.sub_zero, Nat.sub_zero]
  · have := read_slice (a := a) (cap := cap) (sz := sz) (l := 0) (h := t) (cs := xs.flatMap cells) (by omega) H'
    have e1 : (List.drop (0 * sz) (xs.flatMap cells)).take ((t - 0) * sz) = (xs.take t).flatMap cells := by
      rw [flat_drop hc0, flat_take hc0, List.drop_zero, Nat.sub_zero]
    rw [e1] at this; exact this
theorem o_dropT (hc0 : ∀ x, (cells x).length = sz) [f : Slc P st el sz bt z] (hd : d < n) (hx : ev e x = .slice a xs.length cap) (hy : ev e y = .int k2 (t : Int)) (ht : t ≤ xs.length) (hc : xs.length ≤ cap)
    (c : ∀ a', (∀ H' [RdC H' a (xs.flatMap cells)], RdC H' a' ((xs.drop t).flatMap cells)) → Ops P n ops rest (put e d (.slice a' (xs.drop t).length (cap - t))) H Φ) : Ops P n ops (⟨some d, .slice st x (some y) none none, ty, ps, af, none⟩ :: rest) e H Φ := by
  obtain ⟨a', hr, h⟩ := run_dropT (P := P) (f := f) (d := d) (ty := ty) (ps := ps) (af := af) hc0 hx hy ht hc
  exact o_rfl hd h (c a' hr)
theorem o_takeT (hc0 : ∀ x, (cells x).length = sz) [f : Slc P st el sz bt z] (hd : d < n) (hx : ev e x = .slice a xs.length cap) {i : Int} (hy : ev e y = .int k2 i) (hi : i = (t : Int)) (ht : t ≤ xs.length) (hc : xs.length ≤ cap)
    (c : ∀ a', (∀ H' [RdC H' a (xs.flatMap cells)], RdC H' a' ((xs.take t).flatMap cells)) → Ops P n ops rest (put e d (.slice a' (xs.take t).length cap)) H Φ) : Ops P n ops (⟨some d, .slice st x none (some y) none, ty, ps, af, none⟩ :: rest) e H Φ := by
  subst hi
  obtain ⟨a', hr, h⟩ := run_takeT (P := P) (f := f) (d := d) (ty := ty) (ps := ps) (af := af) hc0 hx hy ht hc
  exact o_rfl hd h (c a' hr)
theorem run_ownT (K : Nat) (hc0 : ∀ x, (cells x).length = sz) [f : Slc P st el sz bt z] (hx : ev e x = .slice a xs.length cap) {i : Int} (hy : ev e y = .int k2 i) (hi : i = ((min xs.length K : Nat) : Int)) (hc : xs.length ≤ cap) :
    ∃ a', (∀ H' [RdC H' a (xs.flatMap cells)], RdC H' a' ((xs.take K).flatMap cells)) ∧ ∀ w, (execOp (ev e) ⟨some d, .slice st x none (some y) none, ty, ps, af, none⟩).run P w = .ok (.value (.slice a' (xs.take K).length cap)) w := by
  subst hi
  have e1 : xs.take (min xs.length K) = xs.take K := by rw [List.take_eq_take_iff]; omega
  obtain ⟨a', h1, h2⟩ := run_takeT (P := P) (f := f) (d := d) (ty := ty) (ps := ps) (af := af) hc0 hx hy (Nat.min_le_left _ _) hc
  rw [e1] at h2
  refine ⟨a', fun H' hr => ?_, h2⟩
  have := h1 H'
  rw [e1] at this; exact this
theorem o_ownT (K : Nat) (hc0 : ∀ x, (cells x).length = sz) [f : Slc P st el sz bt z] (hd : d < n) (hx : ev e x = .slice a xs.length cap) {i : Int} (hy : ev e y = .int k2 i) (hi : i = ((min xs.length K : Nat) : Int)) (hc : xs.length ≤ cap)
    (c : ∀ a', (∀ H' [RdC H' a (xs.flatMap cells)], RdC H' a' ((xs.take K).flatMap cells)) → Ops P n ops rest (put e d (.slice a' (xs.take K).length cap)) H Φ) : Ops P n ops (⟨some d, .slice st x none (some y) none, ty, ps, af, none⟩ :: rest) e H Φ := by
  obtain ⟨a', hr, h⟩ := run_ownT (P := P) (f := f) (d := d) (ty := ty) (ps := ps) (af := af) K hc0 hx hy hi hc
  exact o_rfl hd h (c a' hr)
theorem q_ownT {G : Env → Prop} (K : Nat) (hc0 : ∀ x, (cells x).length = sz) [f : Slc P st el sz bt z] (hd : d < n) (hx : ev e x = .slice a xs.length cap) {i : Int} (hy : ev e y = .int k2 i) (hi : i = ((min xs.length K : Nat) : Int)) (hc : xs.length ≤ cap)
    (c : ∀ a', (∀ H' [RdC H' a (xs.flatMap cells)], RdC H' a' ((xs.take K).flatMap cells)) → QO P n ops rest (put e d (.slice a' (xs.take K).length cap)) H G) : QO P n ops (⟨some d, .slice st x none (some y) none, ty, ps, af, none⟩ :: rest) e H G := by
  obtain ⟨a', hr, h⟩ := run_ownT (P := P) (f := f) (d := d) (ty := ty) (ps := ps) (af := af) K hc0 hx hy hi hc
  exact q_rfl hd h (c a' hr)
theorem o_appendT (hc0 : ∀ x, (cells x).length = sz) (h1c : ∀ x, ∀ v ∈ cells x, v.oneCell' = true) [f : Slc P st el sz bt z] {l news : List Value} {R : HP} {u : Array TypeId} (hd : d < n) (hx : ev e x = .slice a xs.length cap) (hy : ev e y = .slice b ys.length ck) (hu : u = #[st, st])
    [ho : HasO H el sz a xs.length cap l R] [hrd : RdC R b news] (h0 : l = xs.flatMap cells) (hn : news = ys.flatMap cells) (hb : (xs.length + ys.length) * bt ≤ 140737488355328) (hk : xs.length + ys.length ≤ maxLen)
    (c : ∀ a' cap', (xs ++ ys).length ≤ cap' → Ops P n ops rest (put e d (.slice a' (xs ++ ys).length cap')) (ow el sz a' (xs ++ ys).length cap' ((xs ++ ys).flatMap cells) * R) Φ) : Ops P n ops (⟨some d, .call ⟨.builtin .append, #[x, y], u⟩, ty, ps, af, none⟩ :: rest) e H Φ := by
  subst h0; subst hn
  refine o_append hd hx hy hu (flat_len hc0 ys) (fun v hv => by
    obtain ⟨q, _, hq⟩ := List.mem_flatMap.1 hv
    exact h1c q v hq) hb hk (fun a' cap' => ?_)
  intro x w0 w F r s
  have s1 := s
  rw [sep_assoc] at s1
  have h2 := (ow_cases s1).2.1
  have := c a' cap' (by simpa using h2)
  rw [List.length_append, List.flatMap_append] at this
  exact this x w0 w F r s
theorem o_copyT (hc0 : ∀ x, (cells x).length = sz) (h1c : ∀ x, ∀ v ∈ cells x, v.oneCell' = true) [f : Slc P st el sz bt z] {l news : List Value} {R : HP} {u : Array TypeId} (hd : d < n) (hx : ev e x = .slice a 0 cap) (hy : ev e y = .slice b ys.length ck) (hu : u = #[st, st])
    [ho : HasO H el sz a 0 cap l R] [hrd : RdC R b news] (h0 : l = []) (hn : news = ys.flatMap cells) (hb : ys.length * bt ≤ 140737488355328) (hk : ys.length ≤ maxLen)
    (c : ∀ a' cap', ys.length ≤ cap' → Ops P n ops rest (put e d (.slice a' ys.length cap')) (ow el sz a' ys.length cap' (ys.flatMap cells) * R) Φ) : Ops P n ops (⟨some d, .call ⟨.builtin .append, #[x, y], u⟩, ty, ps, af, none⟩ :: rest) e H Φ := by
  subst h0
  refine o_appendT (xs := []) (ys := ys) hc0 h1c hd hx hy hu rfl hn (by simpa using hb) (by simpa using hk) (fun a' cap' h => ?_)
  exact c a' cap' h
end
theorem Ent.ow_none (el sz : Nat) (H : HP) : Ent H (ow el sz none 0 0 [] * H) := by
  have h : Ent 1 (ow el sz none 0 0 []) := fun w0 w F s => by
    rw [one_sep] at s
    obtain ⟨r, hr, hm⟩ := s.mem
    exact ⟨s.os, s.tape, s.output, s.size, r, ⟨fun _ => none, r, fun _ => rfl, ⟨by simp, Nat.le_refl _, Nat.zero_le _, .inl ⟨rfl, fun _ => rfl⟩⟩, hr⟩, hm⟩
  exact Ent.trans (Ent.ofEq (one_sep H).symm) (h.frame H)
end Go.Proofs.YtcelailgedndnaaGreatS
namespace Go.Proofs.YtcelailgedndnaaGreatS
set_option linter.unusedSectionVars false
variable [DR]
open Go.RowKit
set_option linter.unusedVariables false
variable {P : Program} {n : Nat} {ops : Array Oper} {rest : List Oper} {e : Env} {H : HP} {Φ : Post} {d : Nat} {ty : TypeId} {ps : String} {af : Array Edge} {K : Env → HP → Prop} {fuel : Nat} {listed : Array Bool}
theorem oa_as (i : Nat) {x : Operand} {v : Value} (hi : ops[i]? = some ⟨some d, .assign x, ty, ps, af, none⟩) (hns : Region.noSelect ops = true) (hfree : Region.free .any ops listed i = true) (hready : (Region.ready .any ops listed).contains i = true) (hd : d < n) (hx : ev e x = v)
    (c : OA P n ops fuel (listed.setIfInBounds i true) (put e d v) H K) : OA P n ops (fuel + 1) listed e H K := oa_first i hi hns hfree hready hd (fun _ => by simp only [execOp, hx]; rfl) c
theorem oa_ex (i : Nat) {x : Operand} {l : List Value} {j : Nat} {v : Value} (hi : ops[i]? = some ⟨some d, .extract x j, ty, ps, af, none⟩) (hns : Region.noSelect ops = true) (hfree : Region.free .any ops listed i = true) (hready : (Region.ready .any ops listed).contains i = true) (hd : d < n) (hx : ev e x = .tuple l.toArray) (hj : l[j]? = some v)
    (c : OA P n ops fuel (listed.setIfInBounds i true) (put e d v) H K) : OA P n ops (fuel + 1) listed e H K := oa_first i hi hns hfree hready hd (fun w => by simp [execOp, hx, Instr.extract, hj]) c
section
variable {α : Type} {cells : α → List Value} {sz : Nat} {k2 : IntKind} {xs : List α} {x y : Operand} {a : Option Addr} {cap st el bt t : Nat} {z : List Value}
theorem oa_dropT (i : Nat) (hc0 : ∀ x, (cells x).length = sz) [f : Slc P st el sz bt z] (hi : ops[i]? = some ⟨some d, .slice st x (some y) none none, ty, ps, af, none⟩) (hns : Region.noSelect ops = true) (hfree : Region.free .any ops listed i = true) (hready : (Region.ready .any ops listed).contains i = true) (hd : d < n)
    (hx : ev e x = .slice a xs.length cap) (hy : ev e y = .int k2 (t : Int)) (ht : t ≤ xs.length) (hc : xs.length ≤ cap)
    (c : ∀ a', (∀ H' [RdC H' a (xs.flatMap cells)], RdC H' a' ((xs.drop t).flatMap cells)) → OA P n ops fuel (listed.setIfInBounds i true) (put e d (.slice a' (xs.drop t).length (cap - t))) H K) : OA P n ops (fuel + 1) listed e H K := by
  obtain ⟨a', hr, h⟩ := run_dropT (P := P) (f := f) (d := d) (ty := ty) (ps := ps) (af := af) hc0 hx hy ht hc
  exact oa_first i hi hns hfree hready hd h (c a' hr)
theorem oa_takeT (i : Nat) (hc0 : ∀ x, (cells x).length = sz) [f : Slc P st el sz bt z] (hi : ops[i]? = some ⟨some d, .slice st x none (some y) none, ty, ps, af, none⟩) (hns : Region.noSelect ops = true) (hfree : Region.free .any ops listed i = true) (hready : (Region.ready .any ops listed).contains i = true) (hd : d < n)
    (hx : ev e x = .slice a xs.length cap) (hy : ev e y = .int k2 (t : Int)) (ht : t ≤ xs.length) (hc : xs.length ≤ cap)
    (c : ∀ a', (∀ H' [RdC H' a (xs.flatMap cells)], RdC H' a' ((xs.take t).flatMap cells)) → OA P n ops fuel (listed.setIfInBounds i true) (put e d (.slice a' (xs.take t).length cap)) H K) : OA P n ops (fuel + 1) listed e H K := by
  obtain ⟨a', hr, h⟩ := run_takeT (P := P) (f := f) (d := d) (ty := ty) (ps := ps) (af := af) hc0 hx hy ht hc
  exact oa_first i hi hns hfree hready hd h (c a' hr)
end
theorem wp_one (j : Nat) {o : Oper} {a : Act} {w0 w : World} {F : HP} (r : Rep n e a) (s : Sat w0 w (H * F)) (hi : ops[j]? = some o) (hg : o.guard = none)
    (h : Ops P n ops [o] e H (fun x e' H' => x = .normal ∧ OA P n ops fuel (listed.setIfInBounds j true) e' H' K)) : wpOp P ops (QQ w0 F n (fun x e H => x = .normal ∧ K e H)) j (wpAny P .any ops (QQ w0 F n (fun x e H => x = .normal ∧ K e H)) fuel (listed.setIfInBounds j true)) a w := by
  have h1 := h a w0 w F r s
  unfold wpList at h1
  unfold wpOp
  simp only [hi]
  have hw : Region.wanted o (yielded ops a.tmps) = true := by simp [Region.wanted, hg]
  rw [if_pos hw] at h1 ⊢
  rcases h1 with h1 | ⟨_, a', w', e', H', _, ⟨hx, _⟩, _⟩
  · left
    unfold Oper.wp at h1 ⊢
    revert h1
    generalize (execOp a.eval o).run P w = res
    have step : ∀ a w, wpList P ops (QQ w0 F n (fun x e' H' => x = .normal ∧ OA P n ops fuel (listed.setIfInBounds j true) e' H' K)) [] a w → wpAny P .any ops (QQ w0 F n (fun x e H => x = .normal ∧ K e H)) fuel (listed.setIfInBounds j true) a w :=
      fun a w ⟨e', H', r', ⟨_, ho⟩, s'⟩ => ho a w0 w F r' s'
    have nope : ∀ c a w, ¬ QQ w0 F n (fun x e' H' => x = .normal ∧ OA P n ops fuel (listed.setIfInBounds j true) e' H' K) (.panic c) a w := fun c a w ⟨_, _, _, ⟨hx, _⟩, _⟩ => by cases hx
    have nopeo : ¬ LetsOut (QQ w0 F n (fun x e' H' => x = .normal ∧ OA P n ops fuel (listed.setIfInBounds j true) e' H' K)) := fun ⟨_, _, _, _, _, ⟨hx, _⟩, _⟩ => by cases hx
    cases res with
    | ok nx w1 =>
      cases nx <;> simp only [Oper.upon] <;> intro h1 <;>
        first
          | exact h1.elim
          | exact step _ _ h1
          | exact Calls.mono h1 (fun e w'' he => by
              cases e with
              | returned v => exact step _ _ he
              | panicked c => exact absurd he (nope _ _ _)
              | outgrown => exact absurd he nopeo)
          | exact Rows.mono h1 (fun _ _ he => step _ _ he)
    | halt hh w1 =>
      cases hh <;> simp only [Oper.upon] <;> intro h1 <;> first | exact h1.elim | exact absurd h1 (nope _ _ _)
  · cases hx
/-- Two can come next: either way. -/
theorem oa_two (i j : Nat) {o q : Oper} (hr : Region.ready .any ops listed = [i, j]) (hi : ops[i]? = some o) (hg : o.guard = none) (hj : ops[j]? = some q) (hgj : q.guard = none)
    (h : Ops P n ops [o] e H (fun x e' H' => x = .normal ∧ OA P n ops fuel (listed.setIfInBounds i true) e' H' K))
    (k : Ops P n ops [q] e H (fun x e' H' => x = .normal ∧ OA P n ops fuel (listed.setIfInBounds j true) e' H' K)) : OA P n ops (fuel + 1) listed e H K := fun a w0 w F r s => by
  refine And.intro (fun h0 => by rw [hr] at h0; simp at h0) (fun m hm => ?_)
  rw [hr] at hm
  have hm2 : m = i ∨ m = j := by simpa using hm
  rcases hm2 with rfl | rfl
  · exact wp_one m r s hi hg h
  · exact wp_one m r s hj hgj k
end Go.Proofs.YtcelailgedndnaaGreatS
