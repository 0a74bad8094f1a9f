/- More rules: values in their plain form, results, the end of a walk, struct literals, slices made and cut, drawn regions. No seat's program is named here. -/
import Derived.Test.YtffhbdgoikkngaaSd
import Derived.Deep.Quiet
namespace Go.Proofs.YtffhbdgoikkngaaS
open Go.RowKit
set_option linter.unusedVariables false
set_option linter.unusedSimpArgs false

variable {P : Program} {n : Nat} {ops : Array Oper} {rest : List Oper} {e : Env} {H : HP} {Φ : Post} {d : Nat} {ty : TypeId} {ps : String} {af : Array Edge}

theorem o_mv {x : Operand} {v : Value} (hd : d < n) (hx : ev e x = v) (k : Ops P n ops rest (put e d v) H Φ) : Ops P n ops (⟨some d, .move x, ty, ps, af, none⟩ :: rest) e H Φ := o_move hd (by rw [hx]; exact k)
theorem o_as {x : Operand} {v : Value} (hd : d < n) (hx : ev e x = v) (k : Ops P n ops rest (put e d v) H Φ) : Ops P n ops (⟨some d, .assign x, ty, ps, af, none⟩ :: rest) e H Φ := o_assign hd (by rw [hx]; exact k)

/-! ### Guards -/
theorem put_same {t : Nat} {v : Value} (h : e t = v) : put e t v = e := funext fun u => by
  unfold put
  cases hb : Nat.beq u t with
  | true => rw [cond_true, Nat.eq_of_beq_eq_true hb, h]
  | false => rfl
theorem g_yes {l : List Oper} {dd : Option Nat} {op : Op} {j t : Nat} {bw : Bool} (hj : (l[j]?).bind (·.dst) = some t) (hn : t < n) (hb : e t = .bool bw) (h : Ops P n l.toArray (⟨dd, op, ty, ps, af, none⟩ :: rest) e H Φ) :
    Ops P n l.toArray (⟨dd, op, ty, ps, af, some (j, bw)⟩ :: rest) e H Φ := ops_wanted rfl hj hn hb h
theorem g_no {l : List Oper} {op : Op} {j t : Nat} {bw : Bool} (hj : (l[j]?).bind (·.dst) = some t) (hn : t < n) (hb : e t = .bool (!bw)) (hd : d < n) (h : Ops P n l.toArray rest (put e d undef) H Φ) :
    Ops P n l.toArray (⟨some d, op, ty, ps, af, some (j, bw)⟩ :: rest) e H Φ := ops_unwanted rfl hj hn hb (by cases bw <;> rfl) rfl hd h
theorem g_undef {l : List Oper} {op : Op} {j t : Nat} {bw : Bool} (hj : (l[j]?).bind (·.dst) = some t) (hb : e t = undef) (hd : d < n) (h : Ops P n l.toArray rest (put e d undef) H Φ) :
    Ops P n l.toArray (⟨some d, op, ty, ps, af, some (j, bw)⟩ :: rest) e H Φ := fun a w0 w F r s => by
  have hy : Region.wanted ⟨some d, op, ty, ps, af, some (j, bw)⟩ (yielded l.toArray a.tmps) = false := by
    unfold Region.wanted yielded
    have hv := r.val t
    rw [hb] at hv
    simp only [List.getElem?_toArray, hj, Option.bind_some]
    cases h2 : a.tmps[t]? with
    | none => rfl
    | some v =>
      have : v = undef := by simpa [h2] using hv
      subst this; rfl
  unfold wpList
  rw [if_neg (by rw [hy]; simp)]
  exact h _ w0 w F (r.put hd undef) s
theorem g_yesT {l : List Oper} {dd : Option Nat} {op : Op} {j t : Nat} {b : Bool} (hj : (l[j]?).bind (·.dst) = some t) (hn : t < n) (hb : e t = .bool b) (hh : b = true) (h : Ops P n l.toArray (⟨dd, op, ty, ps, af, none⟩ :: rest) (put e t (.bool true)) H Φ) :
    Ops P n l.toArray (⟨dd, op, ty, ps, af, some (j, true)⟩ :: rest) e H Φ := by subst hh; rw [put_same hb] at h; exact g_yes hj hn hb h
theorem g_yesF {l : List Oper} {dd : Option Nat} {op : Op} {j t : Nat} {b : Bool} (hj : (l[j]?).bind (·.dst) = some t) (hn : t < n) (hb : e t = .bool b) (hh : b = false) (h : Ops P n l.toArray (⟨dd, op, ty, ps, af, none⟩ :: rest) (put e t (.bool false)) H Φ) :
    Ops P n l.toArray (⟨dd, op, ty, ps, af, some (j, false)⟩ :: rest) e H Φ := by subst hh; rw [put_same hb] at h; exact g_yes hj hn hb h
theorem g_noT {l : List Oper} {op : Op} {j t : Nat} {b : Bool} (hj : (l[j]?).bind (·.dst) = some t) (hn : t < n) (hb : e t = .bool b) (hh : b = true) (hd : d < n) (h : Ops P n l.toArray rest (put (put e t (.bool true)) d undef) H Φ) :
    Ops P n l.toArray (⟨some d, op, ty, ps, af, some (j, false)⟩ :: rest) e H Φ := by subst hh; rw [put_same hb] at h; exact g_no hj hn hb hd h
theorem g_noF {l : List Oper} {op : Op} {j t : Nat} {b : Bool} (hj : (l[j]?).bind (·.dst) = some t) (hn : t < n) (hb : e t = .bool b) (hh : b = false) (hd : d < n) (h : Ops P n l.toArray rest (put (put e t (.bool false)) d undef) H Φ) :
    Ops P n l.toArray (⟨some d, op, ty, ps, af, some (j, true)⟩ :: rest) e H Φ := by subst hh; rw [put_same hb] at h; exact g_no hj hn hb hd h
theorem g_split {l : List Oper} {op : Op} {j t : Nat} {bw b : Bool} (hj : (l[j]?).bind (·.dst) = some t) (hn : t < n) (hb : e t = .bool b) (hd : d < n)
    (h1 : b = bw → Ops P n l.toArray (⟨some d, op, ty, ps, af, none⟩ :: rest) (put e t (.bool bw)) H Φ) (h2 : b = !bw → Ops P n l.toArray rest (put (put e t (.bool !bw)) d undef) H Φ) :
    Ops P n l.toArray (⟨some d, op, ty, ps, af, some (j, bw)⟩ :: rest) e H Φ := by
  by_cases h : b = bw
  · subst h
    have := h1 rfl
    rw [put_same hb] at this
    exact g_yes hj hn hb this
  · have h' : b = !bw := by cases b <;> cases bw <;> simp_all
    subst h'
    have := h2 rfl
    rw [put_same hb] at this
    exact g_no hj hn hb hd this
theorem o_pick_t {c x y : Operand} {v : Value} (hd : d < n) (hc : ev e c = .bool true) (hx : ev e x = v) (k : Ops P n ops rest (put e d v) H Φ) : Ops P n ops (⟨some d, .pick c x y, ty, ps, af, none⟩ :: rest) e H Φ :=
  o_rfl hd (fun w => by simp only [execOp, hc, hx]; rfl) k
theorem o_pick_f {c x y : Operand} {v : Value} (hd : d < n) (hc : ev e c = .bool false) (hx : ev e y = v) (k : Ops P n ops rest (put e d v) H Φ) : Ops P n ops (⟨some d, .pick c x y, ty, ps, af, none⟩ :: rest) e H Φ :=
  o_rfl hd (fun w => by simp only [execOp, hc, hx]; rfl) k
theorem ex_split {c : Nat} {t : Bool} {c1 c2 : Code} (ho : e c = .bool t) (h1 : t = true → Ex P n c1 (put e c (.bool true)) H Φ) (h2 : t = false → Ex P n c2 (put e c (.bool false)) H Φ) : Ex P n (.cond (.tmp c) c1 c2) e H Φ :=
  ex_cond ho (fun h => by have := h1 h; rw [put_same (by rw [ho, h])] at this; exact this) (fun h => by have := h2 h; rw [put_same (by rw [ho, h])] at this; exact this)

/-! ### Results -/
def resv (e : Env) : ResultVar → Sem Value
  | .tmp t => Pure.pure (e t)
  | .cell a t => do loadVar t (← asAddr (e a))
class RV (P : Program) (e : Env) (H : HP) (r : ResultVar) (v : Value) : Prop where v : V P (resv e r) H v
theorem rv_tmp {t : Nat} {v : Value} (h : e t = v) : V P (resv e (.tmp t)) H v := h ▸ V.pure _
theorem rv_cell_a {a t sz : Nat} {z vs l : List Value} {b o : Nat} {p t' fr R} [c : Ag P t sz z] (ha : e a = .pointer (some ⟨b, o, none⟩)) [hl : HasL H b p l t' fr R] (hv : sub l o sz = some vs) : V P (resv e (.cell a t)) H (.agg vs.toArray) := fun w0 w F s => by
  obtain ⟨h1, h2⟩ := sub_len hv
  have hc : ∀ j v, vs[j]? = some v → w.cell? ((⟨b, o, none⟩ : Addr).add j) = some v := fun j v hj => by
    have hlt : j < sz := by rw [← h1]; exact (List.getElem?_eq_some_iff.1 hj).1
    rw [add_none, cell_at (has_heap (b := b) s), ← h2 j hlt, hj]
  simp [resv, ha, asAddr, v_loadVar_a h1 hc]
theorem rv_cell_s {a t : Nat} {z v : Value} {l : List Value} {b o : Nat} {p t' fr R} [c : Sc P t z] (ha : e a = .pointer (some ⟨b, o, none⟩)) [hl : HasL H b p l t' fr R] (hv : l[o]? = some v) : V P (resv e (.cell a t)) H v := fun w0 w F s => by
  have hc := cell_at (has_heap (b := b) s) o
  rw [hv] at hc
  simp [resv, ha, asAddr, v_loadVar_s hc]
theorem resl_list {fn : Func} {l : List ResultVar} (h : fn.results = l.toArray) : resl fn e = (do
    let vs ← l.toArray.mapM (resv e)
    pure (if h : vs.size = 1 then vs[0] else .tuple vs)) := by
  unfold resl; rw [h]; rfl
theorem resl0 {fn : Func} (h : fn.results = #[]) : V P (resl fn e) H (.tuple #[]) := V.ofRun fun w => by
  rw [resl_list (l := []) h]; simp
theorem resl1 {fn : Func} {r : ResultVar} {v : Value} (h : fn.results = #[r]) (hv : V P (resv e r) H v) : V P (resl fn e) H v := fun w0 w F s => by
  rw [resl_list (l := [r]) h]; simp [hv w0 w F s]
theorem resl2 {fn : Func} {r q : ResultVar} {v u : Value} (h : fn.results = #[r, q]) (hv : V P (resv e r) H v) (hu : V P (resv e q) H u) : V P (resl fn e) H (.tuple #[v, u]) := fun w0 w F s => by
  rw [resl_list (l := [r, q]) h]; simp [hv w0 w F s, hu w0 w F s]
theorem resl3 {fn : Func} {r q p : ResultVar} {v u x : Value} (h : fn.results = #[r, q, p]) (hv : V P (resv e r) H v) (hu : V P (resv e q) H u) (hx : V P (resv e p) H x) : V P (resl fn e) H (.tuple #[v, u, x]) := fun w0 w F s => by
  rw [resl_list (l := [r, q, p]) h]; simp [hv w0 w F s, hu w0 w F s, hx w0 w F s]

/-! ### Ends -/
theorem ent_take {A R : HP} [h : Take A H R] : Ent H A := by rw [h.eq]; exact Ent.dropR _ _
theorem ent_cl {p : Bool} {b : Nat} {l l' : List Value} {t : TypeId} {fr : Nat × Nat} {R : HP} (h : l = l') : Ent (cl p b l t fr * R) (cl p b l' t fr) := h ▸ Ent.dropR _ _
theorem ent_cl' {p : Bool} {b : Nat} {l l' : List Value} {t : TypeId} {fr : Nat × Nat} {R : HP} (h : l = l') : Ent (cl p b l t fr * R) (cl p b l' t fr * R) := h ▸ Ent.refl _
def ints (k : IntKind) (l : List Int) : List Value := l.map (Value.int k)
theorem ints_get {k : IntKind} {l : List Int} {i : Nat} (h : i < l.length) : (ints k l)[i]? = some (.int k l[i]) := by simp [ints, h]
theorem ints_len {k : IntKind} {l : List Int} : (ints k l).length = l.length := by simp [ints]
theorem ints_one {k : IntKind} {l : List Int} : ∀ u ∈ ints k l, u.oneCell' = true := by simp [ints, Value.oneCell']
theorem fin {x : Exit} {fn : Func} {X : Type} {val : X → Value} {pr : X → Prop} {res : X → HP} (hx : x = .normal ∨ x = .ret) (y : X) (h1 : V P (resl fn e) H (val y)) (h2 : pr y) (h3 : Ent H (res y)) :
    (x = .normal ∨ x = .ret) ∧ ∃ y, V P (resl fn e) H (val y) ∧ pr y ∧ Ent H (res y) := ⟨hx, y, h1, h2, h3⟩

/-! ### A call, its memory found -/
theorem o_call {f : FuncId} {l : List Operand} {ats : Array TypeId} {vs : List Value} {dd : Option Nat} {cf : Operand}
    {X : Type} {val : X → Value} {pr : X → Prop} {res : X → HP} {Hp Hf : HP} [g : Goes P f] (hs : Spec P f vs Hp val pr res) [ht : Take Hp H Hf] (hd : dOk n dd) (hcf : ev e cf = .func (.func f) #[] #[]) (hv : l.map (ev e) = vs)
    (k : ∀ x, pr x → Ops P n ops rest (putO e dd (val x)) (res x * Hf) Φ) :
    Ops P n ops (⟨dd, .call { callee := .value cf, args := l.toArray, argTypes := ats }, ty, ps, af, none⟩ :: rest) e H Φ := ops_call hd hcf hv hs ht.eq k
/-- The same at one block. -/
theorem o_callB {f : FuncId} {l : List Operand} {ats : Array TypeId} {vs : List Value} {dd : Option Nat} {cf : Operand} {b : Nat} {cs : List Value} {t : TypeId} {fr : Nat × Nat} {p : Bool}
    {X : Type} {val : X → Value} {pr : X → Prop} {res : X → HP} {Hf : HP} [g : Goes P f] (hd : dOk n dd) (hcf : ev e cf = .func (.func f) #[] #[]) (hv : l.map (ev e) = vs) (hs : Spec P f vs (cl p b cs t fr) val pr res) [ht : HasL H b p cs t fr Hf]
    (k : ∀ x, pr x → Ops P n ops rest (putO e dd (val x)) (res x * Hf) Φ) :
    Ops P n ops (⟨dd, .call { callee := .value cf, args := l.toArray, argTypes := ats }, ty, ps, af, none⟩ :: rest) e H Φ := ops_call hd hcf hv hs ht.eq k
/-- The same where the contract speaks of one block and of all that stands beside it. -/
theorem o_callBR {f : FuncId} {l : List Operand} {ats : Array TypeId} {vs : List Value} {dd : Option Nat} {cf : Operand} {b o : Nat} {cs : List Value} {t : TypeId} {fr : Nat × Nat} {p : Bool}
    {X : Type} {val : X → Value} {pr : X → Prop} {res : X → HP} {R : HP} [g : Goes P f] (hd : dOk n dd) (hcf : ev e cf = .func (.func f) #[] #[]) (hv : l.map (ev e) = vs) (hb : vs[0]? = some (.pointer (some ⟨b, o, none⟩))) [ht : HasL H b p cs t fr R]
    (hs : Spec P f vs (cl p b cs t fr * R) val pr res) (k : ∀ x, pr x → Ops P n ops rest (putO e dd (val x)) (res x) Φ) :
    Ops P n ops (⟨dd, .call { callee := .value cf, args := l.toArray, argTypes := ats }, ty, ps, af, none⟩ :: rest) e H Φ := ops_call (Hp := cl p b cs t fr * R) (Hf := 1) hd hcf hv hs (by rw [sep_one]; exact ht.eq) (fun x hx => by rw [sep_one]; exact k x hx)
/-- The same where the contract speaks of all the memory that there is. -/
theorem o_callH {f : FuncId} {l : List Operand} {ats : Array TypeId} {vs : List Value} {dd : Option Nat} {cf : Operand}
    {X : Type} {val : X → Value} {pr : X → Prop} {res : X → HP} [g : Goes P f] (hs : Spec P f vs H val pr res) (hd : dOk n dd) (hcf : ev e cf = .func (.func f) #[] #[]) (hv : l.map (ev e) = vs)
    (k : ∀ x, pr x → Ops P n ops rest (putO e dd (val x)) (res x) Φ) :
    Ops P n ops (⟨dd, .call { callee := .value cf, args := l.toArray, argTypes := ats }, ty, ps, af, none⟩ :: rest) e H Φ := ops_call hd hcf hv hs (sep_one H).symm (fun x hx => by rw [sep_one]; exact k x hx)

/-! ### Struct literals -/
class Lay (P : Program) (t : TypeId) (pl : outParam (List (Nat × Nat))) (z : outParam (List Value)) : Prop where
  zero : ∀ w, (zeroValue t).run P w = .ok (.agg z.toArray) w
  lay : ∃ fs, P.underlying t = some (.struct fs) ∧ ∀ w, (fs.mapM fun (f : Field) => do pure (f.offset, ← sizeOf f.type)).run P w = .ok pl.toArray w
def fillL (pl : List (Nat × Nat)) : List Value → List (Nat × Value) → Option (List Value)
  | z, [] => some z
  | z, (i, v) :: rest => match pl[i]? with
    | none => none
    | some (off, sz) => match v with
      | .agg cs => if cs.toList.length = sz ∧ off + cs.toList.length ≤ z.length then fillL pl (spl z off cs.toList) rest else none
      | v => if 1 = sz ∧ off + 1 ≤ z.length then fillL pl (spl z off [v]) rest else none
theorem fold_spl (off : Nat) : ∀ (vs : List Value) (i : Nat) (z : Array Value), (vs.zipIdx i).foldl (fun cs (p : Value × Nat) => cs.setIfInBounds (off + p.2) p.1) z = (if off + i + vs.length ≤ z.size then (spl z.toList (off + i) vs).toArray else (vs.zipIdx i).foldl (fun cs (p : Value × Nat) => cs.setIfInBounds (off + p.2) p.1) z)
  | [], i, z => by
    by_cases h : off + i ≤ z.size
    · simp only [List.zipIdx_nil, List.foldl_nil, List.length_nil, Nat.add_zero, if_pos h]
      rw [spl_eq _ _ _ (by simpa using h)]; simp
    · simp [h]
  | v :: vs, i, z => by
    by_cases h : off + i + (vs.length + 1) ≤ z.size
    · simp only [List.zipIdx_cons, List.foldl_cons, List.length_cons, if_pos h]
      have := fold_spl off vs (i + 1) (z.setIfInBounds (off + i) v)
      rw [this, if_pos (by simp; omega)]
      congr 1
      rw [spl_eq _ _ _ (by simp; omega), spl_eq _ _ _ (by simp; omega)]
      simp only [Array.toList_setIfInBounds, List.length_cons]
      have := list_seg_step z.toList (off + i) v vs (by simp; omega)
      simpa [Nat.add_assoc, Nat.add_comm 1] using this
    · simp [h]
theorem fill_eq {pl : List (Nat × Nat)} : ∀ (parts : List (Nat × Value)) (z cells : List Value), fillL pl z parts = some cells → Instr.fill (pl.toArray[·]?) z.toArray parts = some cells.toArray
  | [], z, cells, h => by cases h; rfl
  | (i, v) :: rest, z, cells, h => by
    unfold fillL at h
    unfold Instr.fill
    cases hp : pl[i]? with
    | none => rw [hp] at h; cases h
    | some q =>
      obtain ⟨off, sz⟩ := q
      rw [hp] at h
      have hp' : pl.toArray[i]? = some (off, sz) := by simpa using hp
      rw [hp']
      have key : ∀ vs : List Value, v.cells = vs.toArray → vs.length = sz → off + vs.length ≤ z.length → fillL pl (spl z off vs) rest = some cells →
          (if v.cells.size ≠ sz || decide (off + v.cells.size > z.toArray.size) then none
            else Instr.fill (pl.toArray[·]?) (v.cells.zipIdx.foldl (fun cs (x : Value × Nat) => cs.setIfInBounds (off + x.2) x.1) z.toArray) rest) = some cells.toArray := fun vs h1 h2 h3 h4 => by
        have e1 : v.cells.size = vs.length := by rw [h1]; simp
        rw [if_neg (by simp [e1, h2]; omega)]
        have e2 : v.cells.zipIdx.foldl (fun cs (x : Value × Nat) => cs.setIfInBounds (off + x.2) x.1) z.toArray = (spl z off vs).toArray := by
          rw [← Array.foldl_toList, h1]
          have := fold_spl off vs 0 z.toArray
          rw [if_pos (by simpa using h3)] at this
          simpa using this
        rw [e2]
        exact fill_eq rest _ _ h4
      cases v with
      | agg cs =>
        simp only at h
        split at h
        · rename_i hc; exact key cs.toList (by simp [Value.cells]) hc.1 hc.2 h
        · cases h
      | _ =>
        simp only at h
        split at h
        · rename_i hc; exact key [_] rfl (by simpa using hc.1) (by simpa using hc.2) h
        · cases h
theorem o_build {t : TypeId} {pl z} {parts : List (Nat × Operand)} {cells : List Value} [c : Lay P t pl z] (hd : d < n) (hf : fillL pl z (parts.map fun (i, x) => (i, ev e x)) = some cells)
    (k : Ops P n ops rest (put e d (.agg cells.toArray)) H Φ) : Ops P n ops (⟨some d, .build t parts.toArray, ty, ps, af, none⟩ :: rest) e H Φ :=
  o_rfl hd (fun w => by
    obtain ⟨fs, hu, hl⟩ := c.lay
    have h2 := fill_eq _ _ _ hf
    have hb : (Instr.build t (parts.toArray.map fun (i, x) => (i, ev e x))).run P w = .ok (.agg cells.toArray) w := by
      unfold Instr.build
      rw [Sem.run_bind, c.zero]
      simp only [Result.andThen_ok]
      rw [Sem.run_bind, run_underlying hu]
      simp only [Result.andThen_ok, Value.cells]
      rw [Sem.run_bind, hl]
      simp only [Result.andThen_ok, List.map_toArray]
      rw [h2]
      rfl
    simp only [execOp]
    rw [Sem.run_bind, hb]
    rfl) k

/-! ### Rows made -/
def reps : Nat → List Value → List Value
  | 0, _ => []
  | n + 1, z => z ++ reps n z
theorem reps_len (k : Nat) (z : List Value) : (reps k z).length = k * z.length := by
  induction k with
  | zero => simp [reps]
  | succ k ih => simp [reps, ih, Nat.add_mul]; omega
theorem reps_get (k : Nat) (z : List Value) (hz : 0 < z.length) : ∀ j, j < k * z.length → (reps k z)[j]? = z[j % z.length]? := by
  induction k with
  | zero => intro j hj; simp at hj
  | succ k ih =>
    intro j hj
    simp only [reps]
    by_cases h : j < z.length
    · rw [List.getElem?_append_left h, Nat.mod_eq_of_lt h]
    · rw [List.getElem?_append_right (by omega), ih (j - z.length) (by rw [Nat.add_mul] at hj; omega)]
      congr 1
      exact (Nat.mod_eq_sub_mod (by omega)).symm
theorem made_eq (k : Nat) (z : List Value) (hz : 0 < z.length) : ((Array.range (k * z.length)).map fun j => z.toArray[j % z.toArray.size]!) = (reps k z).toArray := by
  apply Array.ext_getElem?
  intro j
  by_cases hj : j < k * z.length
  · have hm : j % z.length < z.length := Nat.mod_lt _ hz
    simp only [Array.getElem?_map, List.getElem?_toArray, reps_get k z hz j hj]
    rw [List.getElem?_eq_getElem hm]
    simp [hj, hm]
  · have h1 : (reps k z)[j]? = none := by simp [reps_len]; omega
    simp [h1, hj]

theorem ow_of_cl {el sz m : Nat} {l : List Value} {g : Nat} (h : l.length = m * sz) (hm : m ≤ maxLen) : Ent (cl true g l el (0, 0)) (ow el sz (some ⟨g, 0, none⟩) m m l) := fun w0 w F s =>
  ow_mk h (Nat.le_refl _) hm h (by rw [← h]; exact List.take_length) s
theorem fill_slice {sz : Nat} : ∀ (parts : List (Nat × Value)) (z cells : List Value), fillL ((List.range (z.length)).map fun i => (i * sz, sz)) z parts = some cells → 0 < sz → Instr.fill (fun i => some (i * sz, sz)) z.toArray parts = some cells.toArray
  | [], z, cells, h, _ => by cases h; rfl
  | (i, v) :: rest, z, cells, h, hs => by
    unfold fillL at h
    unfold Instr.fill
    simp only
    cases hp : ((List.range (z.length)).map fun i => (i * sz, sz))[i]? with
    | none => rw [hp] at h; cases h
    | some q =>
      have hq : q = (i * sz, sz) := by
        by_cases hlt : i < z.length
        · simp [hlt] at hp; exact hp.symm
        · simp [hlt] at hp
      subst hq
      rw [hp] at h
      have key : ∀ vs : List Value, v.cells = vs.toArray → vs.length = sz → i * sz + vs.length ≤ z.length → fillL ((List.range (z.length)).map fun i => (i * sz, sz)) (spl z (i * sz) vs) rest = some cells →
          (if v.cells.size ≠ sz || decide (i * sz + v.cells.size > z.toArray.size) then none
            else Instr.fill (fun i => some (i * sz, sz)) (v.cells.zipIdx.foldl (fun cs (x : Value × Nat) => cs.setIfInBounds (i * sz + x.2) x.1) z.toArray) rest) = some cells.toArray := fun vs h1 h2 h3 h4 => by
        have e1 : v.cells.size = vs.length := by rw [h1]; simp
        rw [if_neg (by simp [e1, h2]; omega)]
        have e2 : v.cells.zipIdx.foldl (fun cs (x : Value × Nat) => cs.setIfInBounds (i * sz + x.2) x.1) z.toArray = (spl z (i * sz) vs).toArray := by
          rw [← Array.foldl_toList, h1]
          have := fold_spl (i * sz) vs 0 z.toArray
          rw [if_pos (by simpa using h3)] at this
          simpa using this
        rw [e2]
        refine fill_slice rest _ _ ?_ hs
        rw [spl_len _ _ _ h3]; exact h4
      cases v with
      | agg cs =>
        simp only at h
        split at h
        · rename_i hc; exact key cs.toList (by simp [Value.cells]) hc.1 hc.2 h
        · cases h
      | _ =>
        simp only at h
        split at h
        · rename_i hc; exact key [_] rfl (by simpa using hc.1) (by simpa using hc.2) h
        · cases h
theorem o_buildSlice {st el sz bt len : Nat} {z : List Value} {parts : List (Nat × Operand)} {cells : List Value} [f : Slc P st el sz bt z] (hd : d < n) (hz : Nat.ble (len * sz) 16777216 = true)
    (hf : fillL ((List.range (reps len z).length).map fun i => (i * sz, sz)) (reps len z) (parts.map fun (i, x) => (i, ev e x)) = some cells) (hc : cells.length = len * sz)
    (k : ∀ b, Ops P n ops rest (put e d (.slice (some ⟨b, 0, none⟩) len len)) (ow el sz (some ⟨b, 0, none⟩) len len cells * H) Φ) : Ops P n ops (⟨some d, .buildSlice st len parts.toArray, ty, ps, af, none⟩ :: rest) e H Φ :=
  ops_step rfl hd fun w0 w F s => by
    have hz := Nat.le_of_ble_eq_true hz
    obtain ⟨i, v, hi, hbt, hsz, hzv, hzc⟩ := f.info
    have hpos := f.pos
    have hzl := f.zsz
    have s1 := s.alloc (.cells cells.toArray el)
    have hlen : len ≤ maxLen := by
      have : len ≤ len * sz := Nat.le_mul_of_pos_right _ hpos
      simp only [maxLen]; omega
    refine ⟨Next.value (.slice (some ⟨w.heap.size, 0, none⟩) len len), { w with heap := w.heap.push (.cells cells.toArray el) }, _, ?_, k w.heap.size, ?_⟩
    · have h2 := fill_slice (sz := sz) _ _ _ hf hpos
      have hno : ¬ (len * sz > 2 ^ 24) := by omega
      have hzv2 : (zeroValue el).run P w = .ok v w := by simp [zeroValue, typeInfo, hi, hzv]
      have hparts : (parts.toArray.map fun (i, x) => (i, ev e x)).toList = parts.map fun (i, x) => (i, ev e x) := by simp
      have hb : (Instr.buildSlice st len (parts.toArray.map fun (i, x) => (i, ev e x))).run P w = .ok (.slice (some ⟨w.heap.size, 0, none⟩) len len) { w with heap := w.heap.push (.cells cells.toArray el) } := by
        unfold Instr.buildSlice
        rw [hparts]
        simp only [Sem.run_bind, run_underlying f.und, Result.andThen_ok, f.size, if_neg hno]
        by_cases h0 : len * sz = 0
        · have hl0 : len = 0 := by
            rcases Nat.mul_eq_zero.1 h0 with h | h
            · exact h
            · omega
          subst hl0
          have hm : ((Array.range (0 * sz)).map fun x => (#[] : Array Value)[x % (#[] : Array Value).size]!) = (reps 0 z).toArray := by simp [reps, Array.range_zero']
          simp only [if_pos h0, Sem.run_bind, Sem.run_pure, Result.andThen_ok]
          rw [hm, h2]
          simp [newRow]
        · have hm := made_eq len z (by omega)
          rw [hzl] at hm
          simp only [if_neg h0, Sem.run_bind, Sem.run_pure, Result.andThen_ok, hzv2, hzc]
          rw [hm, h2]
          simp [newRow]
      simp only [execOp]
      rw [Sem.run_bind, hb]
      rfl
    · rw [sep_assoc]
      have := ow_of_cl (el := el) (sz := sz) (m := len) (l := cells) (g := w.heap.size) hc hlen
      exact this w0 _ (H * F) (by simpa [cl] using s1)
end Go.Proofs.YtffhbdgoikkngaaS
