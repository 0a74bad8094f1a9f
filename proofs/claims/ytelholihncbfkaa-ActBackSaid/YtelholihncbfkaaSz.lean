/- The small logic: as Sw, with operations that are ready from the start (an alloc that leans on nothing) beside those that come in any order. -/
import Derived.Test.YtelholihncbfkaaSy
namespace Go.Proofs.YtelholihncbfkaaS
open Go.RowKit
set_option linter.unusedVariables false
variable {P : Program} {n : Nat} {ops : Array Oper} {H : HP} {K : Env → HP → Prop}
/-- What the kernel looks at: each of those to come leans on earlier ones alone, and leads to the m-th; all from the m-th on lean on the m-th. -/
def confOkE (es : List Nat) (ops : Array Oper) (L0 : Array Bool) (m : Nat) (nxt : List Nat) (ds : List Nat) : Bool :=
  Nat.blt m ops.size && Nat.beq L0.size ops.size &&
  (List.range m).all (fun i => !sel L0 m i || ((deps ops i).all (fun d => Nat.blt d i) &&
    (let j := (nxt[i]?).getD 0; Nat.blt i j && Nat.ble j m && (Nat.beq j m || sel L0 m j) && (deps ops j).contains i))) &&
  (List.range ops.size).all (fun j => Nat.blt j m || L0.getD j true || es.contains j || (Nat.beq j m || (deps ops j).any (fun d => Nat.ble m d && Nat.blt d ops.size && !L0.getD d true))) &&
  (List.range m).all (fun i => !sel L0 m i || (List.range m).all (fun j => !sel L0 m j || (Nat.beq i j || !Nat.beq ((ds[i]?).getD 0) ((ds[j]?).getD 0))))
structure ConfE (ops : Array Oper) (l : List (Nat × Value)) (L0 : Array Bool) (e0 : Env) (m : Nat) (listed : Array Bool) (e : Env) : Prop where
  size : listed.size = ops.size
  old : ∀ i, L0.getD i true = true → listed.getD i true = true
  tail : ∀ j, m ≤ j → j < ops.size → listed.getD j true = L0.getD j true
  closed : ∀ i, sel L0 m i = true → listed.getD i true = true → ∀ d ∈ deps ops i, listed.getD d false = true
  yes : ∀ i, sel L0 m i = true → listed.getD i true = true → e (Vl l i).1 = (Vl l i).2
  no : ∀ t, (∀ i, sel L0 m i = true → (Vl l i).1 ≠ t) → e t = e0 t
  no2 : ∀ i, sel L0 m i = true → listed.getD i true = false → e (Vl l i).1 = e0 (Vl l i).1
theorem oa_confE (l : List (Nat × Value)) (L0 : Array Bool) (e0 : Env) (m tail : Nat) (nxt : List Nat) (es : List Nat) (ok : confOkE es ops L0 m nxt (l.map (·.1)) = true) (hlen : l.length = m)
    (step : ∀ (i : Nat) (e : Env) (Φ : Post), sel L0 m i = true → (∀ d ∈ deps ops i, sel L0 m d = true → e (Vl l d).1 = (Vl l d).2) → (∀ t, (∀ i, sel L0 m i = true → (Vl l i).1 ≠ t) → e t = e0 t) →
      (∀ H'', Ent H'' H → Φ .normal (put e (Vl l i).1 (Vl l i).2) H'') → ∃ o, ops[i]? = some o ∧ Ops P n ops [o] e H Φ)
    (early : ∀ j, es.contains j = true → m ≤ j → j < ops.size → L0.getD j true = false → ∀ (k : Nat) (listed : Array Bool) (e : Env), left m listed = k + 1 → ConfE ops l L0 e0 m listed e → ∃ o, ops[j]? = some o ∧ Ops P n ops [o] e H (fun x e' H' => x = .normal ∧ OA P n ops (k + tail) (listed.setIfInBounds j true) e' H' K))
    (fin : ∀ (listed : Array Bool), listed = (List.range m).foldl (fun L i => L.setIfInBounds i true) L0 → OA P n ops tail listed (confEnv l L0 e0 m) H K) :
    ∀ (k : Nat) (listed : Array Bool) (e : Env), left m listed = k → ConfE ops l L0 e0 m listed e → OA P n ops (k + tail) listed e H K := by
  simp only [confOkE, Bool.and_eq_true] at ok
  obtain ⟨⟨⟨⟨ok1, ok2⟩, ok3⟩, ok4⟩, ok5⟩ := ok
  have hm : m < ops.size := Nat.lt_of_lt_of_le (Nat.le_of_ble_eq_true ok1) (Nat.le_refl _)
  have hL : L0.size = ops.size := Nat.eq_of_beq_eq_true ok2
  have selm : ∀ i, sel L0 m i = true → i < m ∧ L0.getD i true = false := fun i h => by
    unfold sel at h
    rw [Bool.and_eq_true, Bool.not_eq_true'] at h
    exact ⟨Nat.le_of_ble_eq_true h.1, h.2⟩
  have mksel : ∀ i, i < m → L0.getD i true = false → sel L0 m i = true := fun i h1 h2 => by
    unfold sel
    rw [Bool.and_eq_true, Bool.not_eq_true']
    exact ⟨Nat.ble_eq_true_of_le h1, h2⟩
  have c3 : ∀ i, sel L0 m i = true → (∀ d ∈ deps ops i, d < i) ∧ ∃ j, i < j ∧ j ≤ m ∧ (j = m ∨ sel L0 m j = true) ∧ i ∈ deps ops j := fun i h => by
    have := List.all_eq_true.1 ok3 i (List.mem_range.2 (selm i h).1)
    rw [h] at this
    simp only [Bool.not_true, Bool.false_or, Bool.and_eq_true, Bool.or_eq_true] at this
    obtain ⟨h1, ⟨⟨h2, h3⟩, h4⟩, h5⟩ := this
    refine ⟨fun d hd => Nat.le_of_ble_eq_true (List.all_eq_true.1 h1 d hd), _, Nat.le_of_ble_eq_true h2, Nat.le_of_ble_eq_true h3, ?_, by simpa using h5⟩
    rcases h4 with h4 | h4
    · exact .inl (Nat.eq_of_beq_eq_true h4)
    · exact .inr h4
  have c4 : ∀ j, m ≤ j → j < ops.size → L0.getD j true = true ∨ es.contains j = true ∨ (j = m ∨ ∃ d ∈ deps ops j, m ≤ d ∧ d < ops.size ∧ L0.getD d true = false) := fun j h1 h2 => by
    have := List.all_eq_true.1 ok4 j (List.mem_range.2 h2)
    rw [Bool.or_eq_true, Bool.or_eq_true, Bool.or_eq_true] at this
    rcases this with ((h | h) | h) | h
    · exact absurd (Nat.le_of_ble_eq_true h) (by omega)
    · exact .inl h
    · exact .inr (.inl h)
    · rw [Bool.or_eq_true] at h
      rcases h with h3 | h3
      · exact .inr (.inr (.inl (Nat.eq_of_beq_eq_true h3)))
      · obtain ⟨d, hd, hh⟩ := List.any_eq_true.1 h3
        rw [Bool.and_eq_true, Bool.and_eq_true, Bool.not_eq_true'] at hh
        exact .inr (.inr (.inr ⟨d, hd, Nat.le_of_ble_eq_true hh.1.1, Nat.le_of_ble_eq_true hh.1.2, hh.2⟩))
  have inj : ∀ i j, sel L0 m i = true → sel L0 m j = true → (Vl l i).1 = (Vl l j).1 → i = j := fun i j hi hj he => by
    have := List.all_eq_true.1 ok5 i (List.mem_range.2 (selm i hi).1)
    rw [hi] at this
    simp only [Bool.not_true, Bool.false_or] at this
    have := List.all_eq_true.1 this j (List.mem_range.2 (selm j hj).1)
    rw [hj] at this
    simp only [Bool.not_true, Bool.false_or, Bool.or_eq_true, Bool.not_eq_true'] at this
    rcases this with h | h
    · exact Nat.eq_of_beq_eq_true h
    · exfalso
      have hli : i < l.length := by rw [hlen]; exact (selm i hi).1
      have hlj : j < l.length := by rw [hlen]; exact (selm j hj).1
      unfold Vl at he
      rw [List.getElem?_eq_getElem hli, List.getElem?_eq_getElem hlj] at he
      simp only [Option.getD_some] at he
      rw [List.getElem?_map, List.getElem?_map, List.getElem?_eq_getElem hli, List.getElem?_eq_getElem hlj] at h
      simp only [Option.map_some, Option.getD_some] at h
      rw [he] at h
      simp at h
  intro k
  induction k with
  | zero =>
    intro listed e hk hc
    have hall := left_zero hk
    have he : e = confEnv l L0 e0 m := by
      funext t
      have key : ∀ m', m' ≤ m → (∀ i, i < m' → sel L0 m i = true → (Vl l i).1 = t → confEnv l L0 e0 m' t = (Vl l i).2) ∧ ((∀ i, i < m' → sel L0 m i = true → (Vl l i).1 ≠ t) → confEnv l L0 e0 m' t = e0 t) := by
        intro m'
        induction m' with
        | zero => intro _; exact ⟨fun i hi => by omega, fun _ => rfl⟩
        | succ m' ih =>
          intro hm'
          obtain ⟨ih1, ih2⟩ := ih (by omega)
          unfold confEnv
          cases hs : L0.getD m' true with
          | true =>
            rw [cond_true]
            have hns : ¬ sel L0 m m' = true := fun h => by rw [(selm m' h).2] at hs; cases hs
            refine ⟨fun i hi hsi ht => ih1 i ?_ hsi ht, fun hno => ih2 fun i hi => hno i (by omega)⟩
            have : i ≠ m' := fun e => hns (e ▸ hsi)
            omega
          | false =>
            rw [cond_false]
            have hsm := mksel m' (by omega) hs
            by_cases hb : (Vl l m').1 = t
            · have hp : put (confEnv l L0 e0 m') (Vl l m').1 (Vl l m').2 t = (Vl l m').2 := by unfold put; rw [hb]; simp
              refine ⟨fun i hi hsi ht => ?_, fun hno => absurd hb (hno m' (by omega) hsm)⟩
              have : i = m' := inj i m' hsi hsm (ht.trans hb.symm)
              rw [hp, this]
            · have hp : put (confEnv l L0 e0 m') (Vl l m').1 (Vl l m').2 t = confEnv l L0 e0 m' t := by
                unfold put
                have hbe : Nat.beq t (Vl l m').1 = false := by
                  cases h : Nat.beq t (Vl l m').1 with
                  | false => rfl
                  | true => exact absurd (Nat.eq_of_beq_eq_true h).symm hb
                rw [hbe]; rfl
              rw [hp]
              refine ⟨fun i hi hsi ht => ih1 i ?_ hsi ht, fun hno => ih2 fun i hi => hno i (by omega)⟩
              have : i ≠ m' := fun e => hb (e ▸ ht)
              omega
      obtain ⟨k1, k2⟩ := key m (Nat.le_refl _)
      by_cases hex : ∃ i, sel L0 m i = true ∧ (Vl l i).1 = t
      · obtain ⟨i, hi, ht⟩ := hex
        rw [k1 i (selm i hi).1 hi ht, ← ht]
        exact hc.yes i hi (hall i (selm i hi).1)
      · have hno : ∀ i, sel L0 m i = true → (Vl l i).1 ≠ t := fun i hi ht => hex ⟨i, hi, ht⟩
        rw [k2 fun i _ => hno i]
        exact hc.no t hno
    subst he
    rw [Nat.zero_add]
    refine fin listed ?_
    have hfold : ∀ m', m' ≤ m → ((List.range m').foldl (fun L i => L.setIfInBounds i true) L0).size = ops.size ∧ ∀ j, ((List.range m').foldl (fun L i => L.setIfInBounds i true) L0).getD j true = (L0.getD j true || decide (j < m')) := by
      intro m'
      induction m' with
      | zero => intro _; exact ⟨hL, fun j => by simp⟩
      | succ m' ih =>
        intro hm'
        obtain ⟨i1, i2⟩ := ih (by omega)
        rw [List.range_succ, List.foldl_append]
        refine ⟨by simpa using i1, fun j => ?_⟩
        simp only [List.foldl_cons, List.foldl_nil]
        by_cases hj : j = m'
        · subst hj
          have hlt : j < ((List.range j).foldl (fun L i => L.setIfInBounds i true) L0).size := by rw [i1]; omega
          simp [Array.getD_eq_getD_getElem?, hlt]
        · have h1 := i2 j
          simp only [Array.getD_eq_getD_getElem?, Array.getElem?_setIfInBounds_ne (Ne.symm hj)] at h1 ⊢
          rw [h1]
          congr 1
          rw [decide_eq_decide]; omega
    obtain ⟨f1, f2⟩ := hfold m (Nat.le_refl _)
    refine Array.ext (by rw [hc.size, f1]) fun j h1 h2 => ?_
    have e1 : listed.getD j true = listed[j] := by simp [Array.getD_eq_getD_getElem?, Array.getElem?_eq_getElem h1]
    have e2 : ((List.range m).foldl (fun L i => L.setIfInBounds i true) L0).getD j true = ((List.range m).foldl (fun L i => L.setIfInBounds i true) L0)[j] := by simp [Array.getD_eq_getD_getElem?, Array.getElem?_eq_getElem h2]
    rw [← e1, ← e2, f2 j]
    have hjs : j < ops.size := by rw [← hc.size]; exact h1
    by_cases hj : j < m
    · rw [hall j hj, decide_eq_true hj, Bool.or_true]
    · rw [hc.tail j (by omega) hjs, decide_eq_false hj, Bool.or_false]
  | succ k ih =>
    intro listed e hk hc
    rw [Nat.add_right_comm]
    -- one that is to come
    have hex : ∃ i, i < m ∧ listed.getD i true = false ∧ ∀ j, j < i → listed.getD j true = true := by
      have hne : ∃ i, i < m ∧ listed.getD i true = false := by
        refine Classical.byContradiction fun hn => ?_
        have : left m listed = 0 := by
          unfold left
          rw [List.length_eq_zero_iff, List.filter_eq_nil_iff]
          intro i hi
          have := List.mem_range.1 hi
          cases h : listed.getD i true with
          | true => simp
          | false => exact absurd ⟨i, this, h⟩ hn
        omega
      obtain ⟨i, hi, hli⟩ := hne
      have : ∀ b, (∃ i, i < b ∧ i < m ∧ listed.getD i true = false) → ∃ i, i < m ∧ listed.getD i true = false ∧ ∀ j, j < i → listed.getD j true = true := by
        intro b
        induction b with
        | zero => rintro ⟨i, h, _⟩; omega
        | succ b ihb =>
          rintro ⟨i, hib, him, hif⟩
          by_cases hs : ∃ j, j < b ∧ j < m ∧ listed.getD j true = false
          · exact ihb hs
          · refine ⟨i, him, hif, fun j hj => ?_⟩
            cases h : listed.getD j true with
            | true => rfl
            | false => exact absurd ⟨j, by omega, by omega, h⟩ hs
      exact this m ⟨i, hi, hi, hli⟩
    have unsel : ∀ i, i < m → listed.getD i true = false → sel L0 m i = true := fun i h1 h2 => mksel i h1 (by
      cases h : L0.getD i true with
      | false => rfl
      | true => rw [hc.old i h] at h2; cases h2)
    obtain ⟨i0, hi0, hl0, hmin⟩ := hex
    have hops : ∀ i, i < ops.size → ∃ o, ops[i]? = some o := fun i hi => ⟨ops[i], Array.getElem?_eq_getElem hi⟩
    have hready : i0 ∈ Region.ready .any ops listed := ready_deps.2 ⟨hl0, hops i0 (by omega), fun d hd => by
      have := (c3 i0 (unsel i0 hi0 hl0)).1 d hd
      rw [getD_ft (by rw [hc.size]; omega)]
      exact hmin d this⟩
    have hblock : ∀ b i, m - i = b → sel L0 m i = true → listed.getD i true = false → m ∉ Region.ready .any ops listed := by
      intro b
      induction b using Nat.strongRecOn with
      | _ b ihb =>
        intro i hb hsi hli hmr
        obtain ⟨_, j, hij, hjm, hj, hdep⟩ := c3 i hsi
        have hif : listed.getD i false = false := by rw [getD_ft (by rw [hc.size]; have := (selm i hsi).1; omega)]; exact hli
        rcases hj with rfl | hj
        · have := (ready_deps.1 hmr).2.2 i hdep
          rw [hif] at this; cases this
        · have hlj : listed.getD j true = false := by
            cases h : listed.getD j true with
            | false => rfl
            | true => have := hc.closed j hj h i hdep; rw [hif] at this; cases this
          have := (selm j hj).1
          exact ihb (m - j) (by omega) j rfl hj hlj hmr
    have hr : ∀ i ∈ Region.ready .any ops listed, (i < m ∧ listed.getD i true = false) ∨ (es.contains i = true ∧ m ≤ i ∧ i < ops.size ∧ L0.getD i true = false) := fun i hi => by
      obtain ⟨h1, ⟨o, ho⟩, h3⟩ := ready_deps.1 hi
      have his : i < ops.size := (Array.getElem?_eq_some_iff.1 ho).1
      by_cases hn : i < m
      · exact .inl ⟨hn, h1⟩
      · refine .inr ?_
        have hL0 := hc.tail i (by omega) his
        rw [h1] at hL0
        rcases c4 i (by omega) his with h | h | rfl | ⟨d, hd, hd1, hd2, hd3⟩
        · rw [← hL0] at h; cases h
        · exact ⟨h, by omega, his, hL0.symm⟩
        · exact absurd hi (hblock _ i0 rfl (unsel i0 hi0 hl0) hl0)
        · have := h3 d hd
          rw [getD_ft (by rw [hc.size]; exact hd2), hc.tail d hd1 hd2, hd3] at this; cases this
    intro a w0 w F r s
    refine And.intro (fun h0 => by rw [h0] at hready; cases hready) (fun i hi => ?_)
    rcases hr i hi with ⟨him, hil⟩ | ⟨g1, g2, g3, g4⟩
    case inr =>
      obtain ⟨o, ho, hop⟩ := early i g1 g2 g3 g4 k listed e (by omega) hc
      exact wp_oneG i r s ho hop
    have hsi := unsel i him hil
    obtain ⟨_, _, hdl⟩ := ready_deps.1 hi
    have hisz : i < listed.size := by rw [hc.size]; omega
    have hne2 : ∀ j b, j ≠ i → (listed.setIfInBounds i true).getD j b = listed.getD j b := fun j b hj => by
      simp only [Array.getD_eq_getD_getElem?, Array.getElem?_setIfInBounds_ne (Ne.symm hj)]
    have hself : ∀ b, (listed.setIfInBounds i true).getD i b = true := fun b => by simp [Array.getD_eq_getD_getElem?, hisz]
    have hmono : ∀ j, listed.getD j false = true → (listed.setIfInBounds i true).getD j false = true := fun j h => by
      by_cases hj : j = i
      · rw [hj]; exact hself _
      · rw [hne2 j _ hj]; exact h
    have hnew : ConfE ops l L0 e0 m (listed.setIfInBounds i true) (put e (Vl l i).1 (Vl l i).2) := by
      have hput : ∀ t, t ≠ (Vl l i).1 → put e (Vl l i).1 (Vl l i).2 t = e t := fun t ht => by
        unfold put
        have hbe : Nat.beq t (Vl l i).1 = false := by
          cases h : Nat.beq t (Vl l i).1 with
          | false => rfl
          | true => exact absurd (Nat.eq_of_beq_eq_true h) ht
        rw [hbe]; rfl
      have hputs : put e (Vl l i).1 (Vl l i).2 (Vl l i).1 = (Vl l i).2 := by unfold put; simp
      refine ⟨by simpa using hc.size, fun j hj => ?_, fun j h1 h2 => ?_, fun j hsj hlj d hd => ?_, fun j hsj hlj => ?_, fun t ht => ?_, fun j hsj hlj => ?_⟩
      · by_cases h : j = i
        · rw [h]; exact hself _
        · rw [hne2 j _ h]; exact hc.old j hj
      · rw [hne2 j _ (by omega)]; exact hc.tail j h1 h2
      · by_cases h : j = i
        · subst h; exact hmono d (hdl d hd)
        · rw [hne2 j _ h] at hlj
          exact hmono d (hc.closed j hsj hlj d hd)
      · by_cases h : j = i
        · subst h; exact hputs
        · rw [hne2 j _ h] at hlj
          rw [hput _ fun he => h (inj j i hsj hsi he)]
          exact hc.yes j hsj hlj
      · rw [hput t fun he => ht i hsi he.symm]
        exact hc.no t ht
      · have h : j ≠ i := fun h => by rw [h, hself] at hlj; cases hlj
        rw [hne2 j _ h] at hlj
        rw [hput _ fun he => h (inj j i hsj hsi he)]
        exact hc.no2 j hsj hlj
    obtain ⟨o, ho, hop⟩ := step i e (fun x e' H' => x = .normal ∧ OA P n ops (k + tail) (listed.setIfInBounds i true) e' H' K) hsi
      (fun d hd hsd => hc.yes d hsd (by
        have := hdl d hd
        rw [getD_ft (by rw [hc.size]; have := (selm d hsd).1; omega)] at this
        exact this))
      hc.no (fun H'' hent => ⟨rfl, OA.ent (ih _ _ (by have := left_set him hisz hil; omega) hnew) hent⟩)
    exact wp_oneG i r s ho hop
theorem stepE (l : List (Nat × Value)) (ds : List Nat) (listed : Array Bool) (e : Env) (m : Nat) (S : List Nat) (hlen : l.length = m) (hds : l.map (·.1) = ds)
    (hS : ((List.range m).all fun i => !sel listed m i || S.contains i) = true) (step : ∀ i ∈ S, Stp P n ops H l ds listed e m i) :
    ∀ (i : Nat) (e' : Env) (Φ : Post), sel listed m i = true → (∀ d ∈ deps ops i, sel listed m d = true → e' (Vl l d).1 = (Vl l d).2) → (∀ t, (∀ i, sel listed m i = true → (Vl l i).1 ≠ t) → e' t = e t) →
      (∀ H'', Ent H'' H → Φ .normal (put e' (Vl l i).1 (Vl l i).2) H'') → ∃ o, ops[i]? = some o ∧ Ops P n ops [o] e' H Φ := by
  intro i e' Φ hs hd ho kk
  subst hds
  have selm : ∀ i, sel listed m i = true → i < m ∧ listed.getD i true = false := fun i h => by
    unfold sel at h
    rw [Bool.and_eq_true, Bool.not_eq_true'] at h
    exact ⟨Nat.le_of_ble_eq_true h.1, h.2⟩
  have hmem : i ∈ S := by
    have := List.all_eq_true.1 hS i (List.mem_range.2 (selm i hs).1)
    rw [hs] at this
    simpa using this
  refine step i hmem e' Φ (fun d hd' => hd d (by simpa using hd')) (fun t ht => ho t fun j hsj he => ?_) kk
  have := List.all_eq_true.1 ht j (List.mem_range.2 (selm j hsj).1)
  rw [hsj] at this
  simp only [Bool.not_true, Bool.false_or, Bool.not_eq_true'] at this
  have hlj : j < l.length := by rw [hlen]; exact (selm j hsj).1
  unfold Vl at he
  rw [List.getElem?_eq_getElem hlj] at he
  rw [List.getElem?_map, List.getElem?_eq_getElem hlj] at this
  simp only [Option.getD_some, Option.map_some] at he this
  rw [he] at this
  simp at this
theorem oa_confsE (l : List (Nat × Value)) (ds : List Nat) (listed : Array Bool) (e : Env) (m k tail fuel : Nat) (nxt S : List Nat) (es : List Nat) (ok : confOkE es ops listed m nxt ds = true) (hlen : l.length = m) (hds : l.map (·.1) = ds) (hk : left m listed = k) (hf : fuel = k + tail)
    (hS : ((List.range m).all fun i => !sel listed m i || S.contains i) = true) (step : ∀ i ∈ S, Stp P n ops H l ds listed e m i)
    (early : ∀ j, es.contains j = true → m ≤ j → j < ops.size → listed.getD j true = false → ∀ (k : Nat) (listed' : Array Bool) (e' : Env), left m listed' = k + 1 → ConfE ops l listed e m listed' e' → ∃ o, ops[j]? = some o ∧ Ops P n ops [o] e' H (fun x e'' H' => x = .normal ∧ OA P n ops (k + tail) (listed'.setIfInBounds j true) e'' H' K))
    (fin : OA P n ops tail ((List.range m).foldl (fun L i => L.setIfInBounds i true) listed) (confEnv l listed e m) H K) : OA P n ops fuel listed e H K := by
  subst hf; subst hds
  have ok' := ok
  simp only [confOkE, Bool.and_eq_true] at ok'
  obtain ⟨⟨⟨⟨ok1, ok2⟩, ok3⟩, ok4⟩, ok5⟩ := ok'
  have selm : ∀ i, sel listed m i = true → i < m ∧ listed.getD i true = false := fun i h => by
    unfold sel at h
    rw [Bool.and_eq_true, Bool.not_eq_true'] at h
    exact ⟨Nat.le_of_ble_eq_true h.1, h.2⟩
  exact oa_confE l listed e m tail nxt es ok hlen (stepE l (l.map (·.1)) listed e m S hlen rfl hS step) early (fun L hL => by subst hL; exact fin) k listed e hk ⟨Nat.eq_of_beq_eq_true ok2, fun i h => h, fun j h1 h2 => rfl, fun i hs hl => (by rw [(selm i hs).2] at hl; cases hl), fun i hs hl => (by rw [(selm i hs).2] at hl; cases hl), fun t _ => rfl, fun i _ _ => rfl⟩
/-- Which one it is. -/
theorem oa_sel {o : Oper} {Φ : Post} {e : Env} {d : Option Nat} (h : o.dst = d) (k : Ops P n ops [o] e H Φ) : Ops P n ops [o] e H Φ := k
/-- An alloc that leans on nothing, beside those that come in any order: listed or not, they go on. -/
theorem oa_confsA (l : List (Nat × Value)) (ds : List Nat) (listed : Array Bool) (e : Env) (m k tail fuel : Nat) (nxt S : List Nat) (ia da t sz : Nat) (z : List Value) (ty : TypeId) (ps : String) (af : Array Edge) [c : Ag P t sz z]
    (ok : confOkE [ia] ops listed m nxt ds = true) (ok2 : confOkE [] ops (listed.setIfInBounds ia true) m nxt ds = true) (hia : (Nat.ble m ia && Nat.blt ia ops.size && !listed.getD ia true && !ds.contains da) = true)
    (hop : ops[ia]? = some ⟨some da, .alloc t, ty, ps, af, none⟩) (hda : da < n)
    (hlen : l.length = m) (hds : l.map (·.1) = ds) (hk : left m listed = k) (hf : fuel = k + (tail + 1))
    (hS : ((List.range m).all fun i => !sel listed m i || S.contains i) = true) (step : ∀ i ∈ S, Stp P n ops H l ds listed e m i)
    (step2 : ∀ b, ∀ i ∈ S, Stp P n ops (cl true b z t (0, 0) * H) l ds (listed.setIfInBounds ia true) (put e da (.pointer (some ⟨b, 0, none⟩))) m i)
    (fin : OA P n ops (tail + 1) ((List.range m).foldl (fun L i => L.setIfInBounds i true) listed) (confEnv l listed e m) H K)
    (fin2 : ∀ b, OA P n ops tail ((List.range m).foldl (fun L i => L.setIfInBounds i true) (listed.setIfInBounds ia true)) (confEnv l (listed.setIfInBounds ia true) (put e da (.pointer (some ⟨b, 0, none⟩))) m) (cl true b z t (0, 0) * H) K) : OA P n ops fuel listed e H K := by
  simp only [Bool.and_eq_true, Bool.not_eq_true'] at hia
  obtain ⟨⟨⟨i1, i2⟩, i3⟩, i4⟩ := hia
  have i1 : m ≤ ia := Nat.le_of_ble_eq_true i1
  have i2 : ia < ops.size := Nat.le_of_ble_eq_true i2
  have hsel : ∀ i, sel (listed.setIfInBounds ia true) m i = sel listed m i := fun i => by
    unfold sel
    by_cases h : i < m
    · simp only [Array.getD_eq_getD_getElem?, Array.getElem?_setIfInBounds_ne (show ia ≠ i by omega)]
    · have : Nat.blt i m = false := by
        cases hb : Nat.blt i m with
        | false => rfl
        | true => exact absurd (Nat.le_of_ble_eq_true hb) h
      rw [this]; rfl
  have hvl : ∀ i, sel listed m i = true → (Vl l i).1 ≠ da := fun i hi he => by
    have hli : i < l.length := by
      rw [hlen]
      unfold sel at hi
      rw [Bool.and_eq_true] at hi
      exact Nat.le_of_ble_eq_true hi.1
    have hmem : da ∈ ds := by
      rw [← hds, ← he]
      unfold Vl
      rw [List.getElem?_eq_getElem hli]
      exact List.mem_map.2 ⟨_, List.getElem_mem hli, rfl⟩
    have : ds.contains da = true := by simpa using hmem
    rw [this] at i4; cases i4
  have hput : ∀ (e : Env) v t, t ≠ da → put e da v t = e t := fun e v t ht => by
    unfold put
    have hbe : Nat.beq t da = false := by
      cases h : Nat.beq t da with
      | false => rfl
      | true => exact absurd (Nat.eq_of_beq_eq_true h) ht
    rw [hbe]; rfl
  refine oa_confsE l ds listed e m k (tail + 1) fuel nxt S [ia] ok hlen hds hk hf hS step (fun j hj h1 h2 h3 k' listed' e' hk' hc => ?_) fin
  have hj : j = ia := by simpa using hj
  subst hj
  refine ⟨_, hop, o_alloc_a hda fun b => ops_nil ⟨rfl, ?_⟩⟩
  subst hds
  have hne : ∀ i b, i ≠ j → (listed'.setIfInBounds j true).getD i b = listed'.getD i b := fun i b hi => by
    simp only [Array.getD_eq_getD_getElem?, Array.getElem?_setIfInBounds_ne (Ne.symm hi)]
  have hne0 : ∀ i b, i ≠ j → (listed.setIfInBounds j true).getD i b = listed.getD i b := fun i b hi => by
    simp only [Array.getD_eq_getD_getElem?, Array.getElem?_setIfInBounds_ne (Ne.symm hi)]
  have hsz : j < listed'.size := by rw [hc.size]; exact i2
  have hself : ∀ b, (listed'.setIfInBounds j true).getD j b = true := fun b => by simp [Array.getD_eq_getD_getElem?, hsz]
  have hsz0 : j < listed.size := by
    refine Classical.byContradiction fun h => ?_
    rw [Array.getD_eq_getD_getElem?, Array.getElem?_eq_none (by omega)] at i3
    cases i3
  have hself0 : ∀ b, (listed.setIfInBounds j true).getD j b = true := fun b => by simp [Array.getD_eq_getD_getElem?, hsz0]
  have hleft : left m (listed'.setIfInBounds j true) = left m listed' := by
    unfold left
    congr 1
    refine List.filter_congr fun i hi => ?_
    rw [hne i true (by have := List.mem_range.1 hi; omega)]
  have hselm : ∀ i, sel listed m i = true → i ≠ j := fun i hi => by
    unfold sel at hi
    rw [Bool.and_eq_true] at hi
    have : i < m := Nat.le_of_ble_eq_true hi.1
    omega
  rw [show k' + (tail + 1) = (k' + 1) + tail by omega]
  refine oa_confE l (listed.setIfInBounds j true) (put e da (.pointer (some ⟨b, 0, none⟩))) m tail nxt [] ok2 hlen (stepE l (l.map (·.1)) (listed.setIfInBounds j true) _ m S hlen rfl (by simp only [hsel]; exact hS) (step2 b)) (fun q hq => by simp at hq) (fun L hL => by subst hL; exact fin2 b) (k' + 1) (listed'.setIfInBounds j true) _ (by rw [hleft]; exact hk') ⟨by simpa using hc.size, fun i h => ?_, fun i g1 g2 => ?_, fun i hs hl d hd => ?_, fun i hs hl => ?_, fun t ht => ?_, fun i hs hl => ?_⟩
  · by_cases h' : i = j
    · rw [h']; exact hself _
    · rw [hne _ _ h']; rw [hne0 _ _ h'] at h; exact hc.old i h
  · by_cases h' : i = j
    · rw [h', hself, hself0]
    · rw [hne _ _ h', hne0 _ _ h']; exact hc.tail i g1 g2
  · rw [hsel] at hs
    rw [hne _ _ (hselm i hs)] at hl
    by_cases h' : d = j
    · rw [h']; exact hself _
    · rw [hne _ _ h']; exact hc.closed i hs hl d hd
  · rw [hsel] at hs
    rw [hne _ _ (hselm i hs)] at hl
    rw [hput _ _ _ (hvl i hs)]; exact hc.yes i hs hl
  · by_cases h' : t = da
    · rw [h']; unfold put; simp
    · rw [hput _ _ _ h', hput _ _ _ h']
      exact hc.no t fun i hi => ht i (by rw [hsel]; exact hi)
  · rw [hsel] at hs
    rw [hne _ _ (hselm i hs)] at hl
    rw [hput _ _ _ (hvl i hs), hput _ _ _ (hvl i hs)]
    exact hc.no2 i hs hl
end Go.Proofs.YtelholihncbfkaaS
