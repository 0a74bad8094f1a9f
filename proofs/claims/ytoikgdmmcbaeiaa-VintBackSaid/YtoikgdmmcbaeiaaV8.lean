import Derived.Test.YtoikgdmmcbaeiaaV7
namespace Go.Proofs.YtoikgdmmcbaeiaaS
open Go.RowKit
set_option linter.unusedVariables false
set_option linter.unusedSimpArgs false
def ends (b : List Int) : Nat := (b.filter (fun x => decide (x < 128))).length
theorem ends_app (l m : List Int) : ends (l ++ m) = ends l + ends m := by unfold ends; rw [List.filter_append, List.length_append]
theorem ends_take (b : List Int) (i : Nat) (h : i < b.length) : ends (b.take (i + 1)) = ends (b.take i) + (if b[i] < 128 then 1 else 0) := by
  rw [List.take_succ_eq_append_getElem h, ends_app]
  unfold ends
  rw [List.filter_cons]
  by_cases hb : b[i] < 128
  · rw [if_pos (by simpa using hb), if_pos hb]; rfl
  · rw [if_neg (by simpa using hb), if_neg hb]; rfl
theorem ends_le (b : List Int) : ends b ≤ b.length := List.length_filter_le _ _
theorem ends_hi (l : List Int) (h : ∀ x ∈ l, 128 ≤ x) : ends l = 0 := by
  unfold ends
  rw [List.length_eq_zero_iff, List.filter_eq_nil_iff]
  intro x hx
  have := h x hx
  simp; omega
theorem ends_one (n : Int) (h : rng n) : ends (enc 9 (zz n)) = 1 := by
  obtain ⟨l, x, hE, hl, h0, h1⟩ := enc_end n h
  rw [hE, ends_app, ends_hi l (fun y hy => (hl y hy).1)]
  unfold ends
  rw [List.filter_cons, if_pos (by simpa using h1)]; rfl
theorem ends_puts (l : List Int) (h : ∀ n ∈ l, rng n) : ends (puts l) = l.length := by
  induction l with
  | nil => rfl
  | cons x t ih =>
    have e1 : puts (x :: t) = enc 9 (zz x) ++ puts t := rfl
    rw [e1, ends_app, ends_one x (h x (List.mem_cons_self ..)), ih (fun n hn => h n (List.mem_cons_of_mem _ hn)), List.length_cons]; omega
/-- Is it cut behind an int, as far as the first i bytes tell? -/
def wh (b : List Int) (k i : Nat) : Bool := decide (k = 0) || (decide (1 ≤ k) && decide (k ≤ i) && decide (b.getD (k - 1) 0 < 128))
theorem wh_step (b : List Int) (k i : Nat) (h : i < b.length) : wh b k (i + 1) = if b[i] < 128 then (wh b k i || ((i : Int) + 1 == (k : Int))) else wh b k i := by
  unfold wh
  by_cases hk : k = i + 1
  · subst hk
    have e1 : b.getD (i + 1 - 1) 0 = b[i] := by simp [List.getD_eq_getElem?_getD, h]
    have e2 : decide (i + 1 ≤ i) = false := decide_eq_false (by omega)
    have e3 : ((i : Int) + 1 == ((i + 1 : Nat) : Int)) = true := by simp
    rw [e1, e2, e3]
    by_cases hb : b[i] < 128 <;> simp [hb]
  · have e2 : decide (k ≤ i + 1) = decide (k ≤ i) := by rw [decide_eq_decide]; omega
    have e3 : ((i : Int) + 1 == (k : Int)) = false := by simp; omega
    rw [e2, e3, Bool.or_false]
    split <;> rfl
theorem cut_puts : ∀ (l : List Int) (k : Nat), (∀ n ∈ l, rng n) → k ≤ (puts l).length → (k = 0 ∨ (puts l).getD (k - 1) 0 < 128) → ∃ m, (∀ n ∈ m, rng n) ∧ (puts l).take k = puts m := by
  intro l
  induction l with
  | nil => intro k _ hk _; exact ⟨[], by simp, by simp [puts]⟩
  | cons x t ih =>
    intro k hl hk h
    have hx := hl x (List.mem_cons_self ..)
    have e1 : puts (x :: t) = enc 9 (zz x) ++ puts t := rfl
    rw [e1] at hk h ⊢
    rcases Nat.eq_zero_or_pos k with rfl | hk0
    · exact ⟨[], by simp, by simp [puts]⟩
    · have h := h.resolve_left (by omega)
      rw [List.length_append] at hk
      by_cases hs : k < (enc 9 (zz x)).length
      · exfalso
        obtain ⟨a, y, hE, ha, _, _⟩ := enc_end x hx
        have hal : (enc 9 (zz x)).length = a.length + 1 := by rw [hE]; simp
        have : (enc 9 (zz x) ++ puts t).getD (k - 1) 0 = a[k - 1]'(by omega) := by
          rw [hE, List.append_assoc, List.getD_eq_getElem?_getD, List.getElem?_append_left (by omega), List.getElem?_eq_getElem (by omega)]; rfl
        rw [this] at h
        have := (ha _ (List.getElem_mem (by omega : k - 1 < a.length))).1
        omega
      · rw [List.take_append, List.take_of_length_le (by omega)]
        have h2 : k - (enc 9 (zz x)).length = 0 ∨ (puts t).getD (k - (enc 9 (zz x)).length - 1) 0 < 128 := by
          by_cases hz : k - (enc 9 (zz x)).length = 0
          · exact .inl hz
          · right
            rw [List.getD_eq_getElem?_getD, List.getElem?_append_right (by omega), ← List.getD_eq_getElem?_getD] at h
            rwa [show k - (enc 9 (zz x)).length - 1 = k - 1 - (enc 9 (zz x)).length by omega]
        obtain ⟨m, hm, he⟩ := ih (k - (enc 9 (zz x)).length) (fun n hn => hl n (List.mem_cons_of_mem _ hn)) (by omega) h2
        refine ⟨x :: m, ?_, ?_⟩
        · intro n hn
          rcases List.mem_cons.1 hn with rfl | hn
          · exact hx
          · exact hm n hn
        · rw [he]; rfl
/-- Ints' bytes end so. -/
theorem puts_end (m : List Int) (hm : ∀ n ∈ m, rng n) (h : 0 < (puts m).length) : (puts m).getD ((puts m).length - 1) 0 < 128 := by
  have hne : m ≠ [] := by rintro rfl; simp [puts] at h
  obtain ⟨t, x, rfl⟩ : ∃ t x, m = t ++ [x] := ⟨m.dropLast, m.getLast hne, (List.dropLast_concat_getLast hne).symm⟩
  obtain ⟨a, y, hE, _, _, hy⟩ := enc_end x (hm x (by simp))
  rw [puts_one, hE, ← List.append_assoc]
  rw [List.getD_eq_getElem?_getD, List.getElem?_append_right (by simp)]
  simp
  omega
theorem whole_ok (l : List Int) (hl : ∀ n ∈ l, rng n) (k : Nat) (hk : k ≤ (puts l).length) (y : Gt) (h : gok ((puts l).take k) y) : y.2.2.2 = wh (puts l) k (puts l).length := by
  obtain ⟨h1, _, h3⟩ := h
  have hkd : decide (k ≤ (puts l).length) = true := decide_eq_true hk
  rcases h3 with ⟨ho, he⟩ | ⟨ho, _, hn⟩
  · rw [ho]; symm
    unfold wh
    rw [hkd]
    rcases Nat.eq_zero_or_pos k with rfl | hk0
    · simp
    · have hlen : (puts y.2.2.1).length = k := by rw [← he, List.length_take]; omega
      have := puts_end y.2.2.1 h1 (by omega)
      rw [hlen, ← he, List.getD_eq_getElem?_getD, List.getElem?_take, if_pos (by omega), ← List.getD_eq_getElem?_getD] at this
      simp; right; exact ⟨hk0, by simpa [List.getD_eq_getElem?_getD] using this⟩
  · rw [ho]; symm
    cases hw : wh (puts l) k (puts l).length with
    | false => rfl
    | true =>
      exfalso
      unfold wh at hw
      rw [hkd, Bool.or_eq_true, Bool.and_eq_true, Bool.and_eq_true] at hw
      obtain ⟨m, hm, he⟩ := cut_puts l k hl hk (by
        rcases hw with hw | hw
        · exact .inl (of_decide_eq_true hw)
        · exact .inr (of_decide_eq_true hw.2))
      exact hn m hm he
theorem whole_both (l : List Int) (hl : ∀ n ∈ l, rng n) (k : Nat) (y z : Gt) (h : gok ((puts l).take k) y) (h2 : gok ((puts l).drop k) z) (hy : y.2.2.2 = true) : z.2.2.2 = true ∧ y.2.2.1 ++ z.2.2.1 = l := by
  obtain ⟨h1, _, h3⟩ := h
  obtain ⟨g1, _, g3⟩ := h2
  have he : (puts l).take k = puts y.2.2.1 := by
    rcases h3 with ⟨_, he⟩ | ⟨ho, _⟩
    · exact he
    · rw [ho] at hy; cases hy
  have hp : puts y.2.2.1 ++ (puts l).drop k = puts l := by rw [← he]; exact List.take_append_drop k _
  obtain ⟨m, hm, hd⟩ := puts_cancel y.2.2.1 l _ h1 hl hp
  have hz : z.2.2.2 = true ∧ (puts l).drop k = puts z.2.2.1 := by
    rcases g3 with ⟨ho, he⟩ | ⟨ho, _, hn⟩
    · exact ⟨ho, he⟩
    · exact absurd hd (hn m hm)
  refine ⟨hz.1, puts_inj _ _ ?_ hl ?_⟩
  · intro n hn
    rcases List.mem_append.1 hn with hn | hn
    · exact h1 n hn
    · exact g1 n hn
  · rw [puts_app, ← hz.2]; exact hp
end Go.Proofs.YtoikgdmmcbaeiaaS
