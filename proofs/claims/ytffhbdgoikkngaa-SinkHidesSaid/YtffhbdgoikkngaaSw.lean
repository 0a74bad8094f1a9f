/- The small logic: a region whose order is drawn, whose operations up to a place each yield what they yield in whatever order, and leave memory as it was. -/
import Derived.Test.YtffhbdgoikkngaaSv
namespace Go.Proofs.YtffhbdgoikkngaaS
open Go.RowKit
set_option linter.unusedVariables false
variable {P : Program} {n : Nat} {ops : Array Oper} {H : HP} {K : Env → HP → Prop}
theorem OA.ent {fuel : Nat} {listed : Array Bool} {e : Env} {H' : HP} (h : OA P n ops fuel listed e H K) (k : Ent H' H) : OA P n ops fuel listed e H' K := fun a w0 w F r s => h a w0 w F r (k _ _ _ s)
/-- What the i-th operation yields, and where. -/
def Vl (l : List (Nat × Value)) (i : Nat) : Nat × Value := (l[i]?).getD (0, undef)
/-- The frame, when those of the first m that were not listed have yielded. -/
def confEnv (l : List (Nat × Value)) (L0 : Array Bool) (e0 : Env) : Nat → Env
  | 0 => e0
  | m + 1 => bif L0.getD m true then confEnv l L0 e0 m else put (confEnv l L0 e0 m) (Vl l m).1 (Vl l m).2
/-- Is the i-th one of those that are to come? -/
def sel (L0 : Array Bool) (m i : Nat) : Bool := Nat.blt i m && !L0.getD i true
def deps (ops : Array Oper) (i : Nat) : List Nat := ((ops[i]?).map (fun o => (o.after.toList.filter (fun e => Region.binds .any e)).map (·.on))).getD []
theorem ready_deps {listed : Array Bool} {i : Nat} : i ∈ Region.ready .any ops listed ↔ listed.getD i true = false ∧ (∃ o, ops[i]? = some o) ∧ ∀ d ∈ deps ops i, listed.getD d false = true := by
  rw [mem_ready]
  unfold deps
  constructor
  · rintro ⟨h1, o, ho, h⟩
    refine ⟨h1, ⟨o, ho⟩, fun d hd => ?_⟩
    rw [ho] at hd
    simp only [Option.map_some, Option.getD_some, List.mem_map, List.mem_filter, Array.mem_toList_iff] at hd
    obtain ⟨e, ⟨he, hb⟩, rfl⟩ := hd
    exact h e he hb
  · rintro ⟨h1, ⟨o, ho⟩, h⟩
    refine ⟨h1, o, ho, fun e he hb => h e.on ?_⟩
    rw [ho]
    simp only [Option.map_some, Option.getD_some, List.mem_map, List.mem_filter, Array.mem_toList_iff]
    exact ⟨e, ⟨he, hb⟩, rfl⟩
/-- What the kernel looks at: each of those to come leans on earlier ones alone, and leads to the m-th; all from the m-th on lean on the m-th. -/
def confOk (ops : Array Oper) (L0 : Array Bool) (m : Nat) (nxt : List Nat) (ds : List Nat) : Bool :=
  Nat.blt m ops.size && Nat.beq L0.size ops.size &&
  (List.range m).all (fun i => !sel L0 m i || ((deps ops i).all (fun d => Nat.blt d i) &&
    (let j := (nxt[i]?).getD 0; Nat.blt i j && Nat.ble j m && (Nat.beq j m || sel L0 m j) && (deps ops j).contains i))) &&
  (List.range ops.size).all (fun j => Nat.blt j m || (!L0.getD j true && (Nat.beq j m || (deps ops j).any (fun d => Nat.ble m d && Nat.blt d ops.size)))) &&
  (List.range m).all (fun i => !sel L0 m i || (List.range m).all (fun j => !sel L0 m j || (Nat.beq i j || !Nat.beq ((ds[i]?).getD 0) ((ds[j]?).getD 0))))
structure Conf (ops : Array Oper) (l : List (Nat × Value)) (L0 : Array Bool) (e0 : Env) (m : Nat) (listed : Array Bool) (e : Env) : Prop where
  size : listed.size = ops.size
  old : ∀ i, L0.getD i true = true → listed.getD i true = true
  tail : ∀ j, m ≤ j → j < ops.size → listed.getD j true = false
  closed : ∀ i, sel L0 m i = true → listed.getD i true = true → ∀ d ∈ deps ops i, listed.getD d false = true
  yes : ∀ i, sel L0 m i = true → listed.getD i true = true → e (Vl l i).1 = (Vl l i).2
  no : ∀ t, (∀ i, sel L0 m i = true → (Vl l i).1 ≠ t) → e t = e0 t
  no2 : ∀ i, sel L0 m i = true → listed.getD i true = false → e (Vl l i).1 = e0 (Vl l i).1
def left (m : Nat) (listed : Array Bool) : Nat := ((List.range m).filter (fun i => !listed.getD i true)).length
theorem left_zero {m : Nat} {listed : Array Bool} (h : left m listed = 0) : ∀ i, i < m → listed.getD i true = true := fun i hi => by
  unfold left at h
  have := List.filter_eq_nil_iff.1 (List.eq_nil_of_length_eq_zero h) i (List.mem_range.2 hi)
  simpa using this
theorem left_set {m : Nat} {listed : Array Bool} {i : Nat} (hi : i < m) (hsz : i < listed.size) (h : listed.getD i true = false) : left m listed = left m (listed.setIfInBounds i true) + 1 := by
  unfold left
  have e : List.range m = List.range i ++ i :: List.range' (i + 1) (m - 1 - i) := by
    rw [List.range_eq_range', List.range_eq_range']
    have h1 : List.range' 0 m = List.range' 0 i ++ List.range' i (m - i) := by
      have := List.range'_append (s := 0) (m := i) (n := m - i) (step := 1)
      rw [Nat.zero_add, Nat.one_mul] at this
      rw [this, show i + (m - i) = m by omega]
    rw [h1, show m - i = (m - 1 - i) + 1 by omega, List.range'_succ]
  have hne : ∀ j, j ≠ i → (listed.setIfInBounds i true).getD j true = listed.getD j true := fun j hj => by
    simp only [Array.getD_eq_getD_getElem?, Array.getElem?_setIfInBounds_ne (Ne.symm hj)]
  have hself : (listed.setIfInBounds i true).getD i true = true := by
    simp [Array.getD_eq_getD_getElem?, hsz]
  rw [e, List.filter_append, List.filter_append, List.filter_cons, List.filter_cons, h, hself]
  have h1 : (List.range i).filter (fun j => !(listed.setIfInBounds i true).getD j true) = (List.range i).filter (fun j => !listed.getD j true) :=
    List.filter_congr fun j hj => by rw [hne j (by have := List.mem_range.1 hj; omega)]
  have h2 : (List.range' (i + 1) (m - 1 - i)).filter (fun j => !(listed.setIfInBounds i true).getD j true) = (List.range' (i + 1) (m - 1 - i)).filter (fun j => !listed.getD j true) :=
    List.filter_congr fun j hj => by rw [hne j (by have := (List.mem_range'_1.1 hj).1; omega)]
  rw [h1, h2]
  simp
  omega
theorem getD_ft {L : Array Bool} {i : Nat} (h : i < L.size) : L.getD i false = L.getD i true := by simp [Array.getD_eq_getD_getElem?, Array.getElem?_eq_getElem h]
theorem oa_conf (l : List (Nat × Value)) (L0 : Array Bool) (e0 : Env) (m tail : Nat) (nxt : List Nat) (ok : confOk ops L0 m nxt (l.map (·.1)) = true) (hlen : l.length = m)
    (step : ∀ (i : Nat) (e : Env) (Φ : Post), sel L0 m i = true → (∀ d ∈ deps ops i, sel L0 m d = true → e (Vl l d).1 = (Vl l d).2) → (∀ t, (∀ i, sel L0 m i = true → (Vl l i).1 ≠ t) → e t = e0 t) →
      (∀ H'', Ent H'' H → Φ .normal (put e (Vl l i).1 (Vl l i).2) H'') → ∃ o, ops[i]? = some o ∧ Ops P n ops [o] e H Φ)
    (fin : ∀ (listed : Array Bool), listed = (List.range m).foldl (fun L i => L.setIfInBounds i true) L0 → OA P n ops tail listed (confEnv l L0 e0 m) H K) :
    ∀ (k : Nat) (listed : Array Bool) (e : Env), left m listed = k → Conf ops l L0 e0 m listed e → OA P n ops (k + tail) listed e H K := by
  simp only [confOk, Bool.and_eq_true] at ok
  obtain ⟨⟨⟨⟨ok1, ok2⟩, ok3⟩, ok4⟩, ok5⟩ := ok
  have hm : m < ops.size := Nat.lt_of_lt_of_le (Nat.le_of_ble_eq_true ok1) (Nat.le_refl _)
  have hL : L0.size = ops.size := Nat.eq_of_beq_eq_true ok2
  have selm : ∀ i, sel L0 m i = true → i < m ∧ L0.getD i true = false := fun i h => by
    unfold sel at h
    rw [Bool.and_eq_true, Bool.not_eq_true'] at h
    exact ⟨Nat.le_of_ble_eq_true h.1, h.2⟩
  have mksel : ∀ i, i < m → L0.getD i true = false → sel L0 m i = true := fun i h1 h2 => by
    unfold sel
    rw [Bool.and_eq_true, Bool.not_eq_true']
    exact ⟨Nat.ble_eq_true_of_le h1, h2⟩
  have c3 : ∀ i, sel L0 m i = true → (∀ d ∈ deps ops i, d < i) ∧ ∃ j, i < j ∧ j ≤ m ∧ (j = m ∨ sel L0 m j = true) ∧ i ∈ deps ops j := fun i h => by
    have := List.all_eq_true.1 ok3 i (List.mem_range.2 (selm i h).1)
    rw [h] at this
    simp only [Bool.not_true, Bool.false_or, Bool.and_eq_true, Bool.or_eq_true] at this
    obtain ⟨h1, ⟨⟨h2, h3⟩, h4⟩, h5⟩ := this
    refine ⟨fun d hd => Nat.le_of_ble_eq_true (List.all_eq_true.1 h1 d hd), _, Nat.le_of_ble_eq_true h2, Nat.le_of_ble_eq_true h3, ?_, by simpa using h5⟩
    rcases h4 with h4 | h4
    · exact .inl (Nat.eq_of_beq_eq_true h4)
    · exact .inr h4
  have c4 : ∀ j, m ≤ j → j < ops.size → L0.getD j true = false ∧ (j = m ∨ ∃ d ∈ deps ops j, m ≤ d ∧ d < ops.size) := fun j h1 h2 => by
    have := List.all_eq_true.1 ok4 j (List.mem_range.2 h2)
    rw [Bool.or_eq_true] at this
    rcases this with h | h
    · exact absurd (Nat.le_of_ble_eq_true h) (by omega)
    · rw [Bool.and_eq_true, Bool.not_eq_true', Bool.or_eq_true] at h
      refine ⟨h.1, ?_⟩
      rcases h.2 with h3 | h3
      · exact .inl (Nat.eq_of_beq_eq_true h3)
      · obtain ⟨d, hd, hh⟩ := List.any_eq_true.1 h3
        rw [Bool.and_eq_true] at hh
        exact .inr ⟨d, hd, Nat.le_of_ble_eq_true hh.1, Nat.le_of_ble_eq_true hh.2⟩
  have inj : ∀ i j, sel L0 m i = true → sel L0 m j = true → (Vl l i).1 = (Vl l j).1 → i = j := fun i j hi hj he => by
    have := List.all_eq_true.1 ok5 i (List.mem_range.2 (selm i hi).1)
    rw [hi] at this
    simp only [Bool.not_true, Bool.false_or] at this
    have := List.all_eq_true.1 this j (List.mem_range.2 (selm j hj).1)
    rw [hj] at this
    simp only [Bool.not_true, Bool.false_or, Bool.or_eq_true, Bool.not_eq_true'] at this
    rcases this with h | h
    · exact Nat.eq_of_beq_eq_true h
    · exfalso
      have hli : i < l.length := by rw [hlen]; exact (selm i hi).1
      have hlj : j < l.length := by rw [hlen]; exact (selm j hj).1
      unfold Vl at he
      rw [List.getElem?_eq_getElem hli, List.getElem?_eq_getElem hlj] at he
      simp only [Option.getD_some] at he
      rw [List.getElem?_map, List.getElem?_map, List.getElem?_eq_getElem hli, List.getElem?_eq_getElem hlj] at h
      simp only [Option.map_some, Option.getD_some] at h
      rw [he] at h
      simp at h
  intro k
  induction k with
  | zero =>
    intro listed e hk hc
    have hall := left_zero hk
    have he : e = confEnv l L0 e0 m := by
      funext t
      have key : ∀ m', m' ≤ m → (∀ i, i < m' → sel L0 m i = true → (Vl l i).1 = t → confEnv l L0 e0 m' t = (Vl l i).2) ∧ ((∀ i, i < m' → sel L0 m i = true → (Vl l i).1 ≠ t) → confEnv l L0 e0 m' t = e0 t) := by
        intro m'
        induction m' with
        | zero => intro _; exact ⟨fun i hi => by omega, fun _ => rfl⟩
        | succ m' ih =>
          intro hm'
          obtain ⟨ih1, ih2⟩ := ih (by omega)
          unfold confEnv
          cases hs : L0.getD m' true with
          | true =>
            rw [cond_true]
            have hns : ¬ sel L0 m m' = true := fun h => by rw [(selm m' h).2] at hs; cases hs
            refine ⟨fun i hi hsi ht => ih1 i ?_ hsi ht, fun hno => ih2 fun i hi => hno i (by omega)⟩
            have : i ≠ m' := fun e => hns (e ▸ hsi)
            omega
          | false =>
            rw [cond_false]
            have hsm := mksel m' (by omega) hs
            by_cases hb : (Vl l m').1 = t
            · have hp : put (confEnv l L0 e0 m') (Vl l m').1 (Vl l m').2 t = (Vl l m').2 := by unfold put; rw [hb]; simp
              refine ⟨fun i hi hsi ht => ?_, fun hno => absurd hb (hno m' (by omega) hsm)⟩
              have : i = m' := inj i m' hsi hsm (ht.trans hb.symm)
              rw [hp, this]
            · have hp : put (confEnv l L0 e0 m') (Vl l m').1 (Vl l m').2 t = confEnv l L0 e0 m' t := by
                unfold put
                have hbe : Nat.beq t (Vl l m').1 = false := by
                  cases h : Nat.beq t (Vl l m').1 with
                  | false => rfl
                  | true => exact absurd (Nat.eq_of_beq_eq_true h).symm hb
                rw [hbe]; rfl
              rw [hp]
              refine ⟨fun i hi hsi ht => ih1 i ?_ hsi ht, fun hno => ih2 fun i hi => hno i (by omega)⟩
              have : i ≠ m' := fun e => hb (e ▸ ht)
              omega
      obtain ⟨k1, k2⟩ := key m (Nat.le_refl _)
      by_cases hex : ∃ i, sel L0 m i = true ∧ (Vl l i).1 = t
      · obtain ⟨i, hi, ht⟩ := hex
        rw [k1 i (selm i hi).1 hi ht, ← ht]
        exact hc.yes i hi (hall i (selm i hi).1)
      · have hno : ∀ i, sel L0 m i = true → (Vl l i).1 ≠ t := fun i hi ht => hex ⟨i, hi, ht⟩
        rw [k2 fun i _ => hno i]
        exact hc.no t hno
    subst he
    rw [Nat.zero_add]
    refine fin listed ?_
    have hfold : ∀ m', m' ≤ m → ((List.range m').foldl (fun L i => L.setIfInBounds i true) L0).size = ops.size ∧ ∀ j, ((List.range m').foldl (fun L i => L.setIfInBounds i true) L0).getD j true = (L0.getD j true || decide (j < m')) := by
      intro m'
      induction m' with
      | zero => intro _; exact ⟨hL, fun j => by simp⟩
      | succ m' ih =>
        intro hm'
        obtain ⟨i1, i2⟩ := ih (by omega)
        rw [List.range_succ, List.foldl_append]
        refine ⟨by simpa using i1, fun j => ?_⟩
        simp only [List.foldl_cons, List.foldl_nil]
        by_cases hj : j = m'
        · subst hj
          have hlt : j < ((List.range j).foldl (fun L i => L.setIfInBounds i true) L0).size := by rw [i1]; omega
          simp [Array.getD_eq_getD_getElem?, hlt]
        · have h1 := i2 j
          simp only [Array.getD_eq_getD_getElem?, Array.getElem?_setIfInBounds_ne (Ne.symm hj)] at h1 ⊢
          rw [h1]
          congr 1
          rw [decide_eq_decide]; omega
    obtain ⟨f1, f2⟩ := hfold m (Nat.le_refl _)
    refine Array.ext (by rw [hc.size, f1]) fun j h1 h2 => ?_
    have e1 : listed.getD j true = listed[j] := by simp [Array.getD_eq_getD_getElem?, Array.getElem?_eq_getElem h1]
    have e2 : ((List.range m).foldl (fun L i => L.setIfInBounds i true) L0).getD j true = ((List.range m).foldl (fun L i => L.setIfInBounds i true) L0)[j] := by simp [Array.getD_eq_getD_getElem?, Array.getElem?_eq_getElem h2]
    rw [← e1, ← e2, f2 j]
    have hjs : j < ops.size := by rw [← hc.size]; exact h1
    by_cases hj : j < m
    · rw [hall j hj, decide_eq_true hj, Bool.or_true]
    · rw [hc.tail j (by omega) hjs, (c4 j (by omega) hjs).1, decide_eq_false hj]; rfl
  | succ k ih =>
    intro listed e hk hc
    rw [Nat.add_right_comm]
    -- one that is to come
    have hex : ∃ i, i < m ∧ listed.getD i true = false ∧ ∀ j, j < i → listed.getD j true = true := by
      have hne : ∃ i, i < m ∧ listed.getD i true = false := by
        refine Classical.byContradiction fun hn => ?_
        have : left m listed = 0 := by
          unfold left
          rw [List.length_eq_zero_iff, List.filter_eq_nil_iff]
          intro i hi
          have := List.mem_range.1 hi
          cases h : listed.getD i true with
          | true => simp
          | false => exact absurd ⟨i, this, h⟩ hn
        omega
      obtain ⟨i, hi, hli⟩ := hne
      have : ∀ b, (∃ i, i < b ∧ i < m ∧ listed.getD i true = false) → ∃ i, i < m ∧ listed.getD i true = false ∧ ∀ j, j < i → listed.getD j true = true := by
        intro b
        induction b with
        | zero => rintro ⟨i, h, _⟩; omega
        | succ b ihb =>
          rintro ⟨i, hib, him, hif⟩
          by_cases hs : ∃ j, j < b ∧ j < m ∧ listed.getD j true = false
          · exact ihb hs
          · refine ⟨i, him, hif, fun j hj => ?_⟩
            cases h : listed.getD j true with
            | true => rfl
            | false => exact absurd ⟨j, by omega, by omega, h⟩ hs
      exact this m ⟨i, hi, hi, hli⟩
    have unsel : ∀ i, i < m → listed.getD i true = false → sel L0 m i = true := fun i h1 h2 => mksel i h1 (by
      cases h : L0.getD i true with
      | false => rfl
      | true => rw [hc.old i h] at h2; cases h2)
    obtain ⟨i0, hi0, hl0, hmin⟩ := hex
    have hops : ∀ i, i < ops.size → ∃ o, ops[i]? = some o := fun i hi => ⟨ops[i], Array.getElem?_eq_getElem hi⟩
    have hready : i0 ∈ Region.ready .any ops listed := ready_deps.2 ⟨hl0, hops i0 (by omega), fun d hd => by
      have := (c3 i0 (unsel i0 hi0 hl0)).1 d hd
      rw [getD_ft (by rw [hc.size]; omega)]
      exact hmin d this⟩
    have hblock : ∀ b i, m - i = b → sel L0 m i = true → listed.getD i true = false → m ∉ Region.ready .any ops listed := by
      intro b
      induction b using Nat.strongRecOn with
      | _ b ihb =>
        intro i hb hsi hli hmr
        obtain ⟨_, j, hij, hjm, hj, hdep⟩ := c3 i hsi
        have hif : listed.getD i false = false := by rw [getD_ft (by rw [hc.size]; have := (selm i hsi).1; omega)]; exact hli
        rcases hj with rfl | hj
        · have := (ready_deps.1 hmr).2.2 i hdep
          rw [hif] at this; cases this
        · have hlj : listed.getD j true = false := by
            cases h : listed.getD j true with
            | false => rfl
            | true => have := hc.closed j hj h i hdep; rw [hif] at this; cases this
          have := (selm j hj).1
          exact ihb (m - j) (by omega) j rfl hj hlj hmr
    have hr : ∀ i ∈ Region.ready .any ops listed, i < m ∧ listed.getD i true = false := fun i hi => by
      obtain ⟨h1, ⟨o, ho⟩, h3⟩ := ready_deps.1 hi
      have his : i < ops.size := (Array.getElem?_eq_some_iff.1 ho).1
      refine ⟨?_, h1⟩
      refine Classical.byContradiction fun hn => ?_
      rcases (c4 i (by omega) his).2 with rfl | ⟨d, hd, hd1, hd2⟩
      · exact hblock _ i0 rfl (unsel i0 hi0 hl0) hl0 hi
      · have := h3 d hd
        rw [getD_ft (by rw [hc.size]; exact hd2), hc.tail d hd1 hd2] at this; cases this
    intro a w0 w F r s
    refine And.intro (fun h0 => by rw [h0] at hready; cases hready) (fun i hi => ?_)
    obtain ⟨him, hil⟩ := hr i hi
    have hsi := unsel i him hil
    obtain ⟨_, _, hdl⟩ := ready_deps.1 hi
    have hisz : i < listed.size := by rw [hc.size]; omega
    have hne2 : ∀ j b, j ≠ i → (listed.setIfInBounds i true).getD j b = listed.getD j b := fun j b hj => by
      simp only [Array.getD_eq_getD_getElem?, Array.getElem?_setIfInBounds_ne (Ne.symm hj)]
    have hself : ∀ b, (listed.setIfInBounds i true).getD i b = true := fun b => by simp [Array.getD_eq_getD_getElem?, hisz]
    have hmono : ∀ j, listed.getD j false = true → (listed.setIfInBounds i true).getD j false = true := fun j h => by
      by_cases hj : j = i
      · rw [hj]; exact hself _
      · rw [hne2 j _ hj]; exact h
    have hnew : Conf ops l L0 e0 m (listed.setIfInBounds i true) (put e (Vl l i).1 (Vl l i).2) := by
      have hput : ∀ t, t ≠ (Vl l i).1 → put e (Vl l i).1 (Vl l i).2 t = e t := fun t ht => by
        unfold put
        have hbe : Nat.beq t (Vl l i).1 = false := by
          cases h : Nat.beq t (Vl l i).1 with
          | false => rfl
          | true => exact absurd (Nat.eq_of_beq_eq_true h) ht
        rw [hbe]; rfl
      have hputs : put e (Vl l i).1 (Vl l i).2 (Vl l i).1 = (Vl l i).2 := by unfold put; simp
      refine ⟨by simpa using hc.size, fun j hj => ?_, fun j h1 h2 => ?_, fun j hsj hlj d hd => ?_, fun j hsj hlj => ?_, fun t ht => ?_, fun j hsj hlj => ?_⟩
      · by_cases h : j = i
        · rw [h]; exact hself _
        · rw [hne2 j _ h]; exact hc.old j hj
      · rw [hne2 j _ (by omega)]; exact hc.tail j h1 h2
      · by_cases h : j = i
        · subst h; exact hmono d (hdl d hd)
        · rw [hne2 j _ h] at hlj
          exact hmono d (hc.closed j hsj hlj d hd)
      · by_cases h : j = i
        · subst h; exact hputs
        · rw [hne2 j _ h] at hlj
          rw [hput _ fun he => h (inj j i hsj hsi he)]
          exact hc.yes j hsj hlj
      · rw [hput t fun he => ht i hsi he.symm]
        exact hc.no t ht
      · have h : j ≠ i := fun h => by rw [h, hself] at hlj; cases hlj
        rw [hne2 j _ h] at hlj
        rw [hput _ fun he => h (inj j i hsj hsi he)]
        exact hc.no2 j hsj hlj
    obtain ⟨o, ho, hop⟩ := step i e (fun x e' H' => x = .normal ∧ OA P n ops (k + tail) (listed.setIfInBounds i true) e' H' K) hsi
      (fun d hd hsd => hc.yes d hsd (by
        have := hdl d hd
        rw [getD_ft (by rw [hc.size]; have := (selm d hsd).1; omega)] at this
        exact this))
      hc.no (fun H'' hent => ⟨rfl, OA.ent (ih _ _ (by have := left_set him hisz hil; omega) hnew) hent⟩)
    exact wp_oneG i r s ho hop
/-- One of those that are to come, by itself. -/
def Stp (P : Program) (n : Nat) (ops : Array Oper) (H : HP) (l : List (Nat × Value)) (ds : List Nat) (L0 : Array Bool) (e0 : Env) (m i : Nat) : Prop :=
  ∀ (e : Env) (Φ : Post), (∀ d, (deps ops i).contains d = true → sel L0 m d = true → e (Vl l d).1 = (Vl l d).2) →
    (∀ t, ((List.range m).all fun i => !sel L0 m i || !Nat.beq ((ds[i]?).getD 0) t) = true → e t = e0 t) →
    (∀ H'', Ent H'' H → Φ .normal (put e (Vl l i).1 (Vl l i).2) H'') → ∃ o, ops[i]? = some o ∧ Ops P n ops [o] e H Φ
theorem oa_confs (l : List (Nat × Value)) (ds : List Nat) (listed : Array Bool) (e : Env) (m k tail fuel : Nat) (nxt S : List Nat) (ok : confOk ops listed m nxt ds = true) (hlen : l.length = m) (hds : l.map (·.1) = ds) (hk : left m listed = k) (hf : fuel = k + tail)
    (hS : ((List.range m).all fun i => !sel listed m i || S.contains i) = true) (step : ∀ i ∈ S, Stp P n ops H l ds listed e m i)
    (fin : OA P n ops tail ((List.range m).foldl (fun L i => L.setIfInBounds i true) listed) (confEnv l listed e m) H K) : OA P n ops fuel listed e H K := by
  subst hf; subst hds
  have ok' := ok
  simp only [confOk, Bool.and_eq_true] at ok'
  obtain ⟨⟨⟨⟨ok1, ok2⟩, ok3⟩, ok4⟩, ok5⟩ := ok'
  have selm : ∀ i, sel listed m i = true → i < m ∧ listed.getD i true = false := fun i h => by
    unfold sel at h
    rw [Bool.and_eq_true, Bool.not_eq_true'] at h
    exact ⟨Nat.le_of_ble_eq_true h.1, h.2⟩
  refine oa_conf l listed e m tail nxt ok hlen (fun i e' Φ hs hd ho kk => ?_) (fun L hL => by subst hL; exact fin) k listed e hk ⟨Nat.eq_of_beq_eq_true ok2, fun i h => h, fun j h1 h2 => ?_, fun i hs hl => ?_, fun i hs hl => ?_, fun t _ => rfl, fun i _ _ => rfl⟩
  · have hmem : i ∈ S := by
      have := List.all_eq_true.1 hS i (List.mem_range.2 (selm i hs).1)
      rw [hs] at this
      simpa using this
    refine step i hmem e' Φ (fun d hd' => hd d (by simpa using hd')) (fun t ht => ho t fun j hsj he => ?_) kk
    have := List.all_eq_true.1 ht j (List.mem_range.2 (selm j hsj).1)
    rw [hsj] at this
    simp only [Bool.not_true, Bool.false_or, Bool.not_eq_true'] at this
    have hlj : j < l.length := by rw [hlen]; exact (selm j hsj).1
    unfold Vl at he
    rw [List.getElem?_eq_getElem hlj] at he
    rw [List.getElem?_map, List.getElem?_eq_getElem hlj] at this
    simp only [Option.getD_some, Option.map_some] at he this
    rw [he] at this
    simp at this
  · have := List.all_eq_true.1 ok4 j (List.mem_range.2 h2)
    rw [Bool.or_eq_true] at this
    rcases this with h | h
    · exact absurd (Nat.le_of_ble_eq_true h) (by omega)
    · rw [Bool.and_eq_true, Bool.not_eq_true'] at h; exact h.1
  · rw [(selm i hs).2] at hl; cases hl
  · rw [(selm i hs).2] at hl; cases hl
end Go.Proofs.YtffhbdgoikkngaaS
