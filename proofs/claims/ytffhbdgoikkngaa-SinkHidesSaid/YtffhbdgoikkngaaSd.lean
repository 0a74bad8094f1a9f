/- The rules of operations on memory: variables, rows that are read, rows that are owned, append, copy, make. No seat's program is named here. -/
import Derived.Test.YtffhbdgoikkngaaSc
namespace Go.Proofs.YtffhbdgoikkngaaS
open Go.RowKit
set_option linter.unusedVariables false
set_option linter.unusedSimpArgs false

variable {P : Program} {n : Nat} {ops : Array Oper} {rest : List Oper} {e : Env} {H : HP} {Φ : Post} {d : Nat} {ty : TypeId} {ps : String} {af : Array Edge}

/-! ### A block known whole -/
class HasL (H : HP) (b : Nat) (p : outParam Bool) (l : outParam (List Value)) (t : outParam TypeId) (fr : outParam (Nat × Nat)) (R : outParam HP) : Prop where eq : H = cl p b l t fr * R
instance (priority := 900) hasL_1 (p b l t fr) : HasL (cl p b l t fr) b p l t fr 1 := ⟨(sep_one _).symm⟩
instance (priority := 1000) hasL_h (p b l t fr R) : HasL (cl p b l t fr * R) b p l t fr R := ⟨rfl⟩
instance (priority := 500) hasL_t (A H p b l t fr R) [h : HasL H b p l t fr R] : HasL (A * H) b p l t fr (A * R) := ⟨by rw [h.eq, sep_left_comm]⟩

theorem Sat.heapCl {w0 w : World} {A : HP} {p b l t fr} (h : Sat w0 w (cl p b l t fr * A)) : w.heap[b]? = some (.cells l.toArray t fr) := h.blk
theorem cell_at {w : World} {b : Nat} {l : List Value} {t : TypeId} {fr : Nat × Nat} (h : w.heap[b]? = some (.cells l.toArray t fr)) (o : Nat) : w.cell? ⟨b, o, none⟩ = l[o]? := by
  simp [World.cell?, h]
theorem has_heap {w0 w : World} {F : HP} {p b l t fr R} [h : HasL H b p l t fr R] (s : Sat w0 w (H * F)) : w.heap[b]? = some (.cells l.toArray t fr) := by
  rw [h.eq, sep_assoc] at s; exact s.heapCl

def sub (l : List Value) (o k : Nat) : Option (List Value) := if o + k ≤ l.length then some ((l.drop o).take k) else none
theorem sub_len {l : List Value} {o k : Nat} {vs : List Value} (h : sub l o k = some vs) : vs.length = k ∧ ∀ j, j < k → vs[j]? = l[o + j]? := by
  unfold sub at h
  split at h
  · cases h
    refine ⟨by simp; omega, fun j hj => by simp [List.getElem?_take, hj]⟩
  · cases h

theorem v_load {a : Addr} {v : Value} {w : World} (h : w.cell? a = some v) : (load a).run P w = .ok v w := by simp [h]
theorem v_loadVar_s {t : TypeId} {z : Value} [c : Sc P t z] {a : Addr} {v : Value} {w : World} (h : w.cell? a = some v) : (loadVar t a).run P w = .ok v w := by
  simp [loadVar, c.agg, h]
theorem v_loadVar_a {t sz : Nat} {z : List Value} [c : Ag P t sz z] {a : Addr} {vs : List Value} {w : World} (hl : vs.length = sz) (h : ∀ j v, vs[j]? = some v → w.cell? (a.add j) = some v) : (loadVar t a).run P w = .ok (.agg vs.toArray) w := by
  have h1 := run_loadCells_list (P := P) w a vs h
  rw [hl] at h1
  simp [loadVar, c.agg, c.size, h1]

theorem o_load_s {t : TypeId} {z : Value} {x : Operand} {b o : Nat} {v : Value} {p l t' fr R} [c : Sc P t z] [hl : HasL H b p l t' fr R] (hd : d < n) (hx : ev e x = .pointer (some ⟨b, o, none⟩)) (hv : l[o]? = some v)
    (k : Ops P n ops rest (put e d v) H Φ) : Ops P n ops (⟨some d, .load t x, ty, ps, af, none⟩ :: rest) e H Φ :=
  ops_step rfl hd (T.ofV (v := Next.value v) (fun w0 w F s => by
    have hc := cell_at (has_heap (b := b) s) o
    rw [hv] at hc
    simp only [execOp, hx]
    simp [Instr.loadAt, Instr.sureAddr, v_loadVar_s hc]) k)
theorem o_load_a {t sz : Nat} {z : List Value} {x : Operand} {b o : Nat} {vs : List Value} {p l t' fr R} [c : Ag P t sz z] [hl : HasL H b p l t' fr R] (hd : d < n) (hx : ev e x = .pointer (some ⟨b, o, none⟩)) (hv : sub l o sz = some vs)
    (k : Ops P n ops rest (put e d (.agg vs.toArray)) H Φ) : Ops P n ops (⟨some d, .load t x, ty, ps, af, none⟩ :: rest) e H Φ :=
  ops_step rfl hd (T.ofV (v := Next.value (.agg vs.toArray)) (fun w0 w F s => by
    obtain ⟨h1, h2⟩ := sub_len hv
    have hc : ∀ j v, vs[j]? = some v → w.cell? ((⟨b, o, none⟩ : Addr).add j) = some v := fun j v hj => by
      have hlt : j < sz := by rw [← h1]; exact (List.getElem?_eq_some_iff.1 hj).1
      rw [add_none, cell_at (has_heap (b := b) s), ← h2 j hlt, hj]
    simp only [execOp, hx]
    simp [Instr.loadAt, Instr.sureAddr, v_loadVar_a h1 hc]) k)

/-- A list with some cells written over. -/
def spl : List Value → Nat → List Value → List Value
  | l, 0, [] => l
  | [], _, _ => []
  | _ :: l, 0, v :: vs => v :: spl l 0 vs
  | x :: l, o + 1, vs => x :: spl l o vs
theorem spl_eq : ∀ (l : List Value) (o : Nat) (vs : List Value), o + vs.length ≤ l.length → spl l o vs = l.take o ++ vs ++ l.drop (o + vs.length)
  | l, 0, [], _ => by cases l <;> simp [spl]
  | [], 0, v :: vs, h => by simp at h
  | [], o + 1, vs, h => by simp at h
  | x :: l, 0, v :: vs, h => by
    have := spl_eq l 0 vs (by simpa using h)
    simp [spl, this]
  | x :: l, o + 1, vs, h => by
    have := spl_eq l o vs (by simp at h; omega)
    simp [spl, this, Nat.add_right_comm o 1]
theorem spl_len (l : List Value) (o : Nat) (vs : List Value) (h : o + vs.length ≤ l.length) : (spl l o vs).length = l.length := by
  rw [spl_eq l o vs h]; simp; omega

theorem Sat.setRow {w0 w : World} {A : HP} {b : Nat} {l l' : List Value} {t : TypeId} (h : Sat w0 w (cl true b l t (0, 0) * A)) : Sat w0 (w.setRow b l'.toArray) (cl true b l' t (0, 0) * A) :=
  Sat.setBlock h rfl rfl rfl (by simp [World.setRow]) (setRow_heap w b _ _ _ _ h.heapCl) (fun c hc => setRow_other w b c _ hc)
theorem run_storeVar {t sz : Nat} {w : World} {b o : Nat} {l : List Value} {t' : TypeId} {v : Value} {vs : List Value} (hs : (sizeOf t).run P w = .ok sz w) (hc : v.cells = vs.toArray) (hl : vs.length = sz) (h1 : ∀ u ∈ vs, u.oneCell' = true)
    (hw : w.heap[b]? = some (.cells l.toArray t' (0, 0))) (hf : o + vs.length ≤ l.length) : (storeVar t ⟨b, o, none⟩ v).run P w = .ok () (w.setRow b (spl l o vs).toArray) := by
  have h2 := run_storeCells_at P b o t' vs 0 l.toArray w hw (by simpa using hf) h1
  simp only [Nat.add_zero] at h2
  simp [storeVar, hc, hs, hl, h2, spl_eq l o vs hf]
theorem o_store_s {t : TypeId} {z : Value} {x y : Operand} {b o : Nat} {v : Value} {l t' R} [c : Sc P t z] [hl : HasL H b true l t' (0, 0) R] (hx : ev e x = .pointer (some ⟨b, o, none⟩)) (hy : ev e y = v) (h1 : v.oneCell' = true) (hf : Nat.blt o l.length = true)
    (k : Ops P n ops rest e (cl true b (spl l o [v]) t' (0, 0) * R) Φ) : Ops P n ops (⟨none, .store t x y, ty, ps, af, none⟩ :: rest) e H Φ :=
  ops_step rfl trivial fun w0 w F s => by
    have hw := has_heap (b := b) s
    rw [hl.eq, sep_assoc] at s
    refine ⟨.skip, _, cl true b (spl l o [v]) t' (0, 0) * R, ?_, k, by rw [sep_assoc]; exact s.setRow⟩
    have hr := run_storeVar (P := P) (t := t) (v := v) (vs := [v]) (o := o) (c.size w) (by rw [oneCell_cells h1]) rfl (by simpa using h1) hw (by have := Nat.le_of_ble_eq_true hf; simpa using this)
    simp only [execOp, hx, hy]
    simp [Instr.storeAt, Instr.sureAddr, hr]
theorem o_store_a {t sz : Nat} {z : List Value} {x y : Operand} {b o : Nat} {vs : List Value} {l t' R} [c : Ag P t sz z] [hl : HasL H b true l t' (0, 0) R] (hx : ev e x = .pointer (some ⟨b, o, none⟩)) (hy : ev e y = .agg vs.toArray) (hs : vs.length = sz)
    (h1 : vs.all (·.oneCell') = true) (hf : Nat.ble (o + vs.length) l.length = true)
    (k : Ops P n ops rest e (cl true b (spl l o vs) t' (0, 0) * R) Φ) : Ops P n ops (⟨none, .store t x y, ty, ps, af, none⟩ :: rest) e H Φ :=
  ops_step rfl trivial fun w0 w F s => by
    have hw := has_heap (b := b) s
    rw [hl.eq, sep_assoc] at s
    refine ⟨.skip, _, cl true b (spl l o vs) t' (0, 0) * R, ?_, k, by rw [sep_assoc]; exact s.setRow⟩
    have hr := run_storeVar (P := P) (t := t) (v := .agg vs.toArray) (vs := vs) (o := o) (c.size w) rfl hs (by simpa using h1) hw (Nat.le_of_ble_eq_true hf)
    simp only [execOp, hx, hy]
    simp [Instr.storeAt, Instr.sureAddr, hr]

/-! ### New variables -/
theorem t_new {c : Array Value} {t : TypeId} {Ψ : Addr → HP → Prop} (k : ∀ b, Ψ ⟨b, 0, none⟩ (cl true b c.toList t (0, 0) * H)) : T P (newRow t c) H Ψ := fun w0 w F s => by
  refine ⟨⟨w.heap.size, 0, none⟩, { w with heap := w.heap.push (.cells c t) }, cl true w.heap.size c.toList t (0, 0) * H, rfl, k _, ?_⟩
  have := s.alloc (.cells c t)
  rw [sep_assoc]
  simpa [cl] using this
theorem o_alloc_s {t : TypeId} {z : Value} [c : Sc P t z] (hd : d < n) (k : ∀ b, Ops P n ops rest (put e d (.pointer (some ⟨b, 0, none⟩))) (cl true b [z] t (0, 0) * H) Φ) : Ops P n ops (⟨some d, .alloc t, ty, ps, af, none⟩ :: rest) e H Φ :=
  ops_step rfl hd (by
    show T P (Instr.alloc t true (.tuple #[]) >>= fun x => pure (Next.value x)) H _
    refine T.bind ?_
    refine T.bind (T.ofRun c.zero ?_)
    show T P ((newRow t z.cells >>= fun x => pure (Value.pointer (some x)))) H _
    rw [oneCell_cells c.one]
    exact T.bind (t_new fun b => T.pure (T.pure (k b))))
theorem o_alloc_a {t sz : Nat} {z : List Value} [c : Ag P t sz z] (hd : d < n) (k : ∀ b, Ops P n ops rest (put e d (.pointer (some ⟨b, 0, none⟩))) (cl true b z t (0, 0) * H) Φ) : Ops P n ops (⟨some d, .alloc t, ty, ps, af, none⟩ :: rest) e H Φ :=
  ops_step rfl hd (by
    show T P (Instr.alloc t true (.tuple #[]) >>= fun x => pure (Next.value x)) H _
    refine T.bind ?_
    refine T.bind (T.ofRun c.zero ?_)
    show T P ((newRow t z.toArray >>= fun x => pure (Value.pointer (some x)))) H _
    exact T.bind (t_new fun b => T.pure (T.pure (k b))))
theorem o_box {t : TypeId} {x : Operand} {v : Value} {l : List Value} (hd : d < n) (hx : ev e x = v) (hl : v.cells = l.toArray) (k : ∀ b, Ops P n ops rest (put e d (.pointer (some ⟨b, 0, none⟩))) (cl true b l t (0, 0) * H) Φ) :
    Ops P n ops (⟨some d, .box t x, ty, ps, af, none⟩ :: rest) e H Φ :=
  ops_step rfl hd (by
    show T P (Instr.box t (ev e x) >>= fun x => pure (Next.value x)) H _
    rw [hx]
    refine T.bind (T.bind ?_)
    unfold newVar
    rw [hl]
    exact t_new fun b => T.pure (T.pure (k b)))

/-! ### Rows that are read -/
theorem add_block (a : Addr) (j : Nat) : (a.add j).block = a.block := by unfold Addr.add; split <;> rfl
theorem add_add (a : Addr) (i j : Nat) : (a.add i).add j = a.add (i + j) := by
  unfold Addr.add
  by_cases hi : i = 0
  · subst hi; simp
  · by_cases hj : j = 0
    · subst hj; simp [hi]
    · have : i + j ≠ 0 := by omega
      simp [hi, hj, Nat.add_assoc]
def RdP (H : HP) (a : Option Addr) (l : List Value) : Prop := ∀ w0 w F, Sat w0 w (H * F) → ∀ j v, l[j]? = some v → ∃ ad, a = some ad ∧ w.cell? (ad.add j) = some v
class RdC (H : HP) (a : Option Addr) (l : outParam (List Value)) : Prop where rd : RdP H a l
def rs (a : Option Addr) (l : List Value) : HP := fun h => (∀ b x, h b = some x → x.1 = false) ∧ ∀ w : World, (∀ b p o, h b = some (p, o) → w.heap[b]? = some o) → ∀ j v, l[j]? = some v → ∃ ad, a = some ad ∧ w.cell? (ad.add j) = some v
theorem rd_rs (a l) : RdP (rs a l) a l := fun w0 w F s j v hj => by
  obtain ⟨r, hr, hm⟩ := s.dropR.mem
  exact hr.2 w hm j v hj
theorem RdP.left {A : HP} {a l} (h : RdP A a l) (B : HP) : RdP (A * B) a l := fun w0 w F s => h w0 w (B * F) (by rw [← sep_assoc]; exact s)
theorem RdP.right {B : HP} {a l} (h : RdP B a l) (A : HP) : RdP (A * B) a l := by rw [sep_comm]; exact h.left A
instance (priority := 1000) rdc_rs (a l R) : RdC (rs a l * R) a l := ⟨(rd_rs a l).left R⟩
instance (priority := 900) rdc_rs1 (a l) : RdC (rs a l) a l := ⟨rd_rs a l⟩
instance (priority := 500) rdc_t (A H a l) [h : RdC H a l] : RdC (A * H) a l := ⟨h.rd.right A⟩
instance (priority := 1100) rdc_nil (H) : RdC H none [] := ⟨fun _ _ _ _ j v hj => by simp at hj⟩
instance (priority := 400) rdc_add (H) (ad : Addr) (k l) [h : RdC H (some ad) l] : RdC H (some (ad.add k)) (l.drop k) := ⟨fun w0 w F s j v hj => by
  obtain ⟨ad', ha, hc⟩ := h.rd w0 w F s (k + j) v (by rw [← hj]; simp)
  cases ha
  exact ⟨_, rfl, by rw [add_add]; exact hc⟩⟩
theorem rd_cl (p b l t fr o) : RdP (cl p b l t fr) (some ⟨b, o, none⟩) (l.drop o) := fun w0 w F s j v hj =>
  ⟨_, rfl, by rw [add_none, cell_at s.heapCl, ← hj]; simp⟩
instance (priority := 1000) rdc_cl (p b l t fr R) : RdC (cl p b l t fr * R) (some ⟨b, 0, none⟩) l := ⟨(rd_cl p b l t fr 0).left R⟩
instance (priority := 900) rdc_cl1 (p b l t fr) : RdC (cl p b l t fr) (some ⟨b, 0, none⟩) l := ⟨rd_cl p b l t fr 0⟩
theorem rs_self (a l) : rs a l = rs a l * rs a l := by
  refine HP.ext fun h => ⟨fun k => ⟨h, h, fun b => ?_, k, k⟩, ?_⟩
  · cases hb : h b with
    | none => exact rfl
    | some x => exact ⟨k.1 b x hb, rfl, rfl⟩
  · rintro ⟨h1, h2, hj, k1, k2⟩
    refine ⟨fun b x hb => ?_, fun w hw j v hv => k1.2 w (fun b p o e => hw b p o ?_) j v hv⟩
    · have hx := hj b
      cases e1 : h1 b with
      | none => rw [e1] at hx; exact k2.1 b x (hx ▸ hb)
      | some y =>
        have hy := k1.1 b y e1
        rw [e1] at hx
        cases e2 : h2 b with
        | none => rw [e2] at hx; have : h b = some y := hx; rw [this] at hb; cases hb; exact hy
        | some z => rw [e2] at hx; have : h b = some y := hx.2.2; rw [this] at hb; cases hb; exact hy
    · have hx := hj b
      rw [e] at hx
      cases e2 : h2 b with
      | none => rw [e2] at hx; exact hx
      | some z => rw [e2] at hx; exact hx.2.2

theorem RdP.some {a l} (h : RdP H a l) (hne : 0 < l.length) {w0 w : World} {F : HP} (s : Sat w0 w (H * F)) : ∃ ad, a = some ad := by
  obtain ⟨ad, ha, _⟩ := h w0 w F s 0 _ (List.getElem?_eq_getElem hne)
  exact ⟨ad, ha⟩
/-- Where something is read, there is an address. -/
theorem Ops.rd_some {a l} [h : RdC H a l] {rest : List Oper} (hne : 0 < l.length) (k : ∀ ad, a = some ad → Ops P n ops rest e H Φ) : Ops P n ops rest e H Φ := fun x w0 w F r s => by
  obtain ⟨ad, ha⟩ := h.rd.some hne s
  exact k ad ha x w0 w F r s
theorem Ex.rd_some {a l} [h : RdC H a l] {c : Code} (hne : 0 < l.length) (k : ∀ ad, a = some ad → Ex P n c e H Φ) : Ex P n c e H Φ := fun x w0 w F r s => by
  obtain ⟨ad, ha⟩ := h.rd.some hne s
  exact k ad ha x w0 w F r s
theorem o_load_r {t : TypeId} {z : Value} {x : Operand} {ad : Addr} {j : Nat} {v : Value} {l} [c : Sc P t z] [hr : RdC H (some ad) l] (hd : d < n) (hx : ev e x = .pointer (some (ad.add j))) (hv : l[j]? = some v)
    (k : Ops P n ops rest (put e d v) H Φ) : Ops P n ops (⟨some d, .load t x, ty, ps, af, none⟩ :: rest) e H Φ :=
  ops_step rfl hd (T.ofV (v := Next.value v) (fun w0 w F s => by
    obtain ⟨ad', ha, hc⟩ := hr.rd w0 w F s j v hv
    cases ha
    simp only [execOp, hx]
    simp [Instr.loadAt, Instr.sureAddr, v_loadVar_s hc]) k)
theorem o_load_ra {t sz : Nat} {z : List Value} {x : Operand} {ad : Addr} {j : Nat} {vs : List Value} {l} [c : Ag P t sz z] [hr : RdC H (some ad) l] (hd : d < n) (hx : ev e x = .pointer (some (ad.add j))) (hv : sub l j sz = some vs)
    (k : Ops P n ops rest (put e d (.agg vs.toArray)) H Φ) : Ops P n ops (⟨some d, .load t x, ty, ps, af, none⟩ :: rest) e H Φ :=
  ops_step rfl hd (T.ofV (v := Next.value (.agg vs.toArray)) (fun w0 w F s => by
    obtain ⟨h1, h2⟩ := sub_len hv
    have hc : ∀ i v, vs[i]? = some v → w.cell? ((ad.add j).add i) = some v := fun i v hi => by
      have hlt : i < sz := by rw [← h1]; exact (List.getElem?_eq_some_iff.1 hi).1
      obtain ⟨ad', ha, hc⟩ := hr.rd w0 w F s (j + i) v (by rw [← h2 i hlt, hi])
      cases ha
      rw [add_add]; exact hc
    simp only [execOp, hx]
    simp [Instr.loadAt, Instr.sureAddr, v_loadVar_a h1 hc]) k)

/-! ### Rows that are owned -/
def ow (el sz : Nat) (a : Option Addr) (m cap : Nat) (l : List Value) : HP := fun h => l.length = m * sz ∧ m ≤ cap ∧ cap ≤ maxLen ∧
  ((cap = 0 ∧ ∀ b, h b = none) ∨ ∃ g cur, a = some ⟨g, 0, none⟩ ∧ cur.length = cap * sz ∧ cur.take (m * sz) = l ∧ cl true g cur el (0, 0) h)
class HasO (H : HP) (el sz : Nat) (a : Option Addr) (m cap : Nat) (l : outParam (List Value)) (R : outParam HP) : Prop where ent : Ent H (ow el sz a m cap l * R)
instance (priority := 1000) hasO_h (el sz a m cap l R) : HasO (ow el sz a m cap l * R) el sz a m cap l R := ⟨Ent.refl _⟩
instance (priority := 900) hasO_1 (el sz a m cap l) : HasO (ow el sz a m cap l) el sz a m cap l 1 := ⟨Ent.ofEq (sep_one _).symm⟩
instance (priority := 500) hasO_t (A H el sz a m cap l R) [h : HasO H el sz a m cap l R] : HasO (A * H) el sz a m cap l (A * R) := ⟨by
  have := h.ent.frameL A
  rw [sep_left_comm] at this
  exact this⟩
theorem ow_nil (el sz : Nat) (a : Option Addr) (A : HP) : Ent A (ow el sz a 0 0 [] * A) := fun w0 w F s => by
  obtain ⟨r, hr, hm⟩ := s.mem
  rw [sep_assoc]
  exact ⟨s.os, s.tape, s.output, s.size, r, ⟨fun _ => none, r, fun _ => rfl, ⟨by simp, Nat.le_refl _, Nat.zero_le _, .inl ⟨rfl, fun _ => rfl⟩⟩, hr⟩, hm⟩
instance (priority := 1100) hasO_nil (H el sz) : HasO H el sz none 0 0 [] H := ⟨ow_nil el sz none H⟩
theorem rd_ow (el sz a m cap l) : RdP (ow el sz a m cap l) a l := fun w0 w F s j v hj => by
  obtain ⟨r, hr, hm⟩ := s.dropR.mem
  obtain ⟨h1, h2, h3, h4 | ⟨g, cur, ha, hc, ht, hb⟩⟩ := hr
  · have hm0 : m = 0 := by omega
    have : l = [] := List.eq_nil_of_length_eq_zero (by rw [h1, hm0]; simp)
    rw [this] at hj; simp at hj
  · refine ⟨_, ha, ?_⟩
    have hb' : r = fun c => if c = g then some (true, .cells cur.toArray el (0, 0)) else none := hb
    have := hm g true (.cells cur.toArray el (0, 0)) (by rw [hb']; simp)
    rw [add_none, cell_at this, Nat.zero_add]
    rw [← ht, List.getElem?_take] at hj
    split at hj
    · exact hj
    · cases hj
instance (priority := 1000) rdc_ow (el sz a m cap l R) : RdC (ow el sz a m cap l * R) a l := ⟨(rd_ow el sz a m cap l).left R⟩
instance (priority := 900) rdc_ow1 (el sz a m cap l) : RdC (ow el sz a m cap l) a l := ⟨rd_ow el sz a m cap l⟩
theorem ow_cases {w0 w : World} {F : HP} {el sz a m cap l} (s : Sat w0 w (ow el sz a m cap l * F)) :
    l.length = m * sz ∧ m ≤ cap ∧ cap ≤ maxLen ∧ ((cap = 0 ∧ Sat w0 w F) ∨ ∃ g cur, a = some ⟨g, 0, none⟩ ∧ cur.length = cap * sz ∧ cur.take (m * sz) = l ∧ Sat w0 w (cl true g cur el (0, 0) * F)) := by
  have hd := s.drop
  obtain ⟨r, ⟨r1, r2, hj, ⟨h1, h2, h3, h4⟩, hf⟩, hm⟩ := s.mem
  refine ⟨h1, h2, h3, ?_⟩
  rcases h4 with h4 | ⟨g, cur, ha, hc, ht, hb⟩
  · exact .inl ⟨h4.1, hd⟩
  · exact .inr ⟨g, cur, ha, hc, ht, s.os, s.tape, s.output, s.size, r, ⟨r1, r2, hj, hb, hf⟩, hm⟩
theorem ow_mk {w0 w : World} {F : HP} {el sz m cap : Nat} {l : List Value} {g : Nat} {cur : List Value} (h1 : l.length = m * sz) (h2 : m ≤ cap) (h3 : cap ≤ maxLen) (hc : cur.length = cap * sz) (ht : cur.take (m * sz) = l)
    (s : Sat w0 w (cl true g cur el (0, 0) * F)) : Sat w0 w (ow el sz (some ⟨g, 0, none⟩) m cap l * F) := by
  obtain ⟨r, ⟨r1, r2, hj, hb, hf⟩, hm⟩ := s.mem
  exact ⟨s.os, s.tape, s.output, s.size, r, ⟨r1, r2, hj, ⟨h1, h2, h3, .inr ⟨g, cur, rfl, hc, ht, hb⟩⟩, hf⟩, hm⟩
theorem ow_facts {el sz a m cap l R} [h : HasO H el sz a m cap l R] {rest : List Oper} (k : l.length = m * sz → m ≤ cap → cap ≤ maxLen → Ops P n ops rest e H Φ) : Ops P n ops rest e H Φ := fun x w0 w F r s => by
  obtain ⟨h1, h2, h3, _⟩ := ow_cases (by have := h.ent _ _ _ s; rw [sep_assoc] at this; exact this)
  exact k h1 h2 h3 x w0 w F r s
theorem ow_len (el sz a m cap l) (R : HP) {w0 w : World} {F : HP} (s : Sat w0 w (ow el sz a m cap l * R * F)) : l.length = m * sz := by
  rw [sep_assoc] at s; exact (ow_cases s).1

theorem append_spec {st el sz bt : Nat} {z : List Value} [f : Slc P st el sz bt z] {a b : Option Addr} {m cap k ck : Nat} {l news : List Value} {R : HP} {ty : TypeId} (hrd : RdP R b news) (hl : news.length = k * sz) (h1 : ∀ u ∈ news, u.oneCell' = true)
    (hb : (m + k) * bt ≤ 140737488355328) (hk : m + k ≤ maxLen) {w0 w : World} {F : HP} (s : Sat w0 w (ow el sz a m cap l * (R * F))) :
    ∃ a' cap' w', (Builtin.append_ #[st, st] ty #[.slice a m cap, .slice b k ck]).run P w = .ok (.slice a' (m + k) cap') w' ∧ Sat w0 w' (ow el sz a' (m + k) cap' (l ++ news) * (R * F)) := by
  have sR := s.drop
  have hpos := f.pos
  obtain ⟨i, zv, hi, hbt, hsz, hz, hzc⟩ := f.info
  obtain ⟨hlen, hmc, hcm, hcase⟩ := ow_cases s
  have hlenA : (l ++ news).length = (m + k) * sz := by rw [List.length_append, hlen, hl, Nat.add_mul]
  have hm63 : m + k ≤ 9223372036854775807 := by simp only [maxLen] at hk; omega
  by_cases hk0 : k = 0
  · -- nothing is appended
    subst hk0
    have hn : news = [] := List.eq_nil_of_length_eq_zero (by simpa using hl)
    subst hn
    refine ⟨a, cap, w, ?_, by simpa using s⟩
    have hroom : m + 0 ≤ cap := by omega
    cases b with
    | none =>
      cases a with
      | none => simp [Builtin.append_, run_underlying f.und, f.size, Builtin.lenOf, hmc, Builtin.firstCells]
      | some a => simp [Builtin.append_, run_underlying f.und, f.size, Builtin.lenOf, hmc, Builtin.firstCells, storeCells]
    | some b =>
      cases a with
      | none => simp [Builtin.append_, run_underlying f.und, f.size, Builtin.lenOf, hmc, Builtin.firstCells, loadCells, loadCellsFrom]
      | some a => simp [Builtin.append_, run_underlying f.und, f.size, Builtin.lenOf, hmc, Builtin.firstCells, loadCells, loadCellsFrom, storeCells]
  · have hne : 0 < news.length := by rw [hl]; exact Nat.mul_pos (by omega) hpos
    obtain ⟨bd, rfl⟩ := (hrd.some hne sR)
    have hnews : ∀ j v, news[j]? = some v → w.cell? (bd.add j) = some v := fun j v hj => by
      obtain ⟨ad, ha, hc⟩ := hrd w0 w F sR j v hj
      cases ha; exact hc
    have hl' : news.length = k * i.size := by rw [hsz]; exact hl
    have grown : ∀ old, old < m + k →
        Sat w0 (w.drew.alloc (.cells (l.toArray ++ news.toArray ++ Builtin.zeroCells zv.cells (grownCap w (m + k) old el - (m + k))) el))
          (ow el sz (some ⟨w.heap.size, 0, none⟩) (m + k) (grownCap w (m + k) old el) (l ++ news) * (R * F)) := fun old ho => by
      have hge := grownCap_ge w (m + k) old el
      have hcm' := grownCap_le_maxLen w (m + k) old el hk
      have hzs : zv.cells.size = sz := by rw [hzc]; simpa using f.zsz
      have s1 := sR.drew.alloc (.cells (l.toArray ++ news.toArray ++ Builtin.zeroCells zv.cells (grownCap w (m + k) old el - (m + k))) el)
      refine ow_mk (cur := (l.toArray ++ news.toArray ++ Builtin.zeroCells zv.cells (grownCap w (m + k) old el - (m + k))).toList) hlenA hge hcm' ?_ ?_ ?_
      · simp only [Array.length_toList, Array.size_append, List.size_toArray, size_zeroCells, hzs, hlen, hl, ← Nat.add_mul]
        congr 1
        omega
      · simp only [Array.toList_append]
        rw [← hlenA]
        exact List.take_left
      · unfold cl; rw [Array.toArray_toList]; exact s1
    rcases hcase with ⟨hc0, _⟩ | ⟨g, cur, rfl, hcur, htake, sg⟩
    · have hm0 : m = 0 := by omega
      subst hm0; subst hc0
      have hl0 : l = [] := List.eq_nil_of_length_eq_zero (by simpa using hlen)
      subst hl0
      cases a with
      | none =>
        have hr := run_append_nil (P := P) w st ty el i zv f.und hi hz bd k ck news hl' hnews (by omega) (by omega) (by rw [hbt]; simp only [Nat.zero_add] at hb; omega)
        have hg := grown 0 (by omega)
        simp only [Nat.zero_add, List.nil_append, Array.empty_append] at hg hr ⊢
        exact ⟨_, _, _, hr, hg⟩
      | some a0 =>
        have hr := run_append_grow (P := P) w st ty el i zv f.und hi hz a0 0 0 [] (by simp) (by simp) bd k ck news hl' hnews (by omega) (by omega) (growslice_fits (by omega) (by rw [hbt]; exact hb))
        exact ⟨_, _, _, hr, grown 0 (by omega)⟩
    · by_cases hroom : m + k ≤ cap
      · have hg0 : w.heap[g]? = some (.cells cur.toArray el (0, 0)) := sg.heapCl
        have hfit : m * i.size + news.length ≤ cur.toArray.size := by
          rw [hsz, hl]; simp only [List.size_toArray]; rw [hcur, ← Nat.add_mul]; exact Nat.mul_le_mul_right _ hroom
        have hr := run_append_room (P := P) w st ty el i f.und hi g m cap cur.toArray hg0 bd k ck news hl' hnews h1 hroom hfit
        refine ⟨_, _, _, hr, ow_mk hlenA hroom hcm ?_ ?_ (sg.setRow (l' := cur.take (m * i.size) ++ news ++ cur.drop (m * i.size + news.length)))⟩
        · simp only [List.length_append, List.length_take, List.length_drop]
          simp only [List.size_toArray] at hfit
          omega
        · rw [hsz, htake, ← hlenA]
          exact List.take_left
      · have holds : ∀ j u, l[j]? = some u → w.cell? ((⟨g, 0, none⟩ : Addr).add j) = some u := fun j u hj => by
          rw [add_none, cell_at sg.heapCl, Nat.zero_add]
          rw [← htake, List.getElem?_take] at hj
          split at hj
          · exact hj
          · cases hj
        have hr := run_append_grow (P := P) w st ty el i zv f.und hi hz ⟨g, 0, none⟩ m cap l (by rw [hsz]; exact hlen) holds bd k ck news hl' hnews (by omega) (by omega) (growslice_fits (by omega) (by rw [hbt]; exact hb))
        exact ⟨_, _, _, hr, grown cap (by omega)⟩

theorem o_append {x y : Operand} {st el sz bt : Nat} {z : List Value} [f : Slc P st el sz bt z] {a b : Option Addr} {m cap k ck : Nat} {l news : List Value} {R : HP} {u : Array TypeId} (hd : d < n) (hx : ev e x = .slice a m cap) (hy : ev e y = .slice b k ck) (hu : u = #[st, st])
    [ho : HasO H el sz a m cap l R] [hrd : RdC R b news] (hl : news.length = k * sz) (h1 : ∀ v ∈ news, v.oneCell' = true) (hb : (m + k) * bt ≤ 140737488355328) (hk : m + k ≤ maxLen)
    (c : ∀ a' cap', Ops P n ops rest (put e d (.slice a' (m + k) cap')) (ow el sz a' (m + k) cap' (l ++ news) * R) Φ) : Ops P n ops (⟨some d, .call ⟨.builtin .append, #[x, y], u⟩, ty, ps, af, none⟩ :: rest) e H Φ :=
  ops_step rfl hd fun w0 w F s => by
    subst hu
    have s1 := ho.ent _ _ _ s
    rw [sep_assoc] at s1
    obtain ⟨a', cap', w', hr, s'⟩ := append_spec (P := P) (st := st) (ck := ck) (ty := ty) hrd.rd hl h1 hb hk s1
    refine ⟨Next.value (.slice a' (m + k) cap'), w', ow el sz a' (m + k) cap' (l ++ news) * R, ?_, c a' cap', by rw [sep_assoc]; exact s'⟩
    simp [execOp, resolve, invoke, builtin, hx, hy, hr]
end Go.Proofs.YtffhbdgoikkngaaS
