import Derived.Test.YtelholihncbfkaaA4
namespace Go.Proofs.YtelholihncbfkaaS
open Go.RowKit
set_option linter.unusedVariables false
set_option linter.unusedSimpArgs false
abbrev Rt : Type := Option Addr × Nat × Ac
def inpL (l : List Int) : In_ := match l with
  | [_, t] => (true, t, 0, 0, 0)
  | [_, t, k, v] => (false, t, k, v, 0)
  | _ => z0
/-- What read hands back. -/
def rdR (b : List Int) (y : Rt) : Prop :=
  if (nr b).1 = 3 then y = (none, 0, (3, 0, 0, 0, p0, z0)) else
  if (nr b).1 = 1 then ∃ p ok, dok ((b.drop (nr b).2).drop (nr (b.drop (nr b).2)).2) (y.1, y.2.1, p, ok) ∧ y.2.2 = (1, (nr (b.drop (nr b).2)).1, 0, 0, p, z0) else
  ∃ l ok, ∃ a' c', gok ((b.drop (nr b).2).drop (nr (b.drop (nr b).2)).2) (a', c', l, ok) ∧ y = (none, 0, ((nr b).1, (nr (b.drop (nr b).2)).1, 0, 0, p0, inpL l))
theorem gok_puts' (l : List Int) (hl : ∀ n ∈ l, rng n) (y : Gt) (h : gok (puts l) y) : y.2.2.2 = true ∧ y.2.2.1 = l := by
  obtain ⟨h1, _, h3⟩ := h
  rcases h3 with ⟨ho, he⟩ | ⟨_, _, hn⟩
  · exact ⟨ho, (puts_inj _ _ hl h1 he).symm⟩
  · exact absurd rfl (hn l hl)
theorem nr_bd (b : List Int) (hb : ∀ x ∈ b, 0 ≤ x ∧ x < 256) : rng (nr b).1 ∧ (nr b).2 ≤ b.length := by
  rcases nr_inv b hb with ⟨_, _, h⟩ | ⟨_, h2, h3, _, _⟩
  · rw [h]; exact ⟨rngk (by decide) (by decide), Nat.zero_le _⟩
  · exact ⟨h3, h2⟩
theorem pl0 : ∀ n ∈ pl p0, rng n := by
  have : pl p0 = [0, 0, 0, 0, 0, 0] := by decide +kernel
  rw [this]; exact rngs (by decide)
theorem inpL_rng (l : List Int) (h : ∀ n ∈ l, rng n) : rng (inpL l).2.1 ∧ rng (inpL l).2.2.1 ∧ rng (inpL l).2.2.2.1 := by
  have r0 : rng 0 := rngk (by decide) (by decide)
  unfold inpL
  split
  · exact ⟨h _ (by simp), r0, r0⟩
  · exact ⟨h _ (by simp), h _ (by simp), h _ (by simp)⟩
  · exact ⟨r0, r0, r0⟩
theorem rd_wf (b : List Int) (hb : ∀ x ∈ b, 0 ≤ x ∧ x < 256) (y : Rt) (h : rdR b y) : wfA y.2.2 ∧ y.2.2.2.2.2.2.1.1.length ≤ y.2.1 := by
  have hb1 : ∀ x ∈ b.drop (nr b).2, 0 ≤ x ∧ x < 256 := fun x hx => hb x (List.mem_of_mem_drop hx)
  have b1 := nr_bd b hb
  have b2 := nr_bd _ hb1
  have r0 : rng 0 := rngk (by decide) (by decide)
  unfold rdR at h
  split at h
  · subst h
    exact ⟨⟨rngk (by decide) (by decide), r0, pl0, by decide, r0, r0, r0⟩, by decide⟩
  · split at h
    · obtain ⟨p, ok, hd, he⟩ := h
      have hp : (∀ n ∈ pl p, rng n) ∧ p.1.length ≤ 1000000 ∧ p.1.length ≤ y.2.1 := by
        rcases hd with ⟨_, h1, _, h2, h3⟩ | ⟨_, _, _, h1, _⟩
        · exact ⟨h2, Nat.le_trans (pir_len h1) (by decide), h3⟩
        · have h1 : p = p0 := h1
          subst h1; exact ⟨pl0, by decide, Nat.zero_le _⟩
      rw [he]
      have r1 : rng 1 := rngk (by decide) (by decide)
      exact ⟨⟨r1, b2.1, hp.1, hp.2.1, r0, r0, r0⟩, hp.2.2⟩
    · obtain ⟨l, ok, a', c', hg, rfl⟩ := h
      have hi := inpL_rng l hg.1
      exact ⟨⟨b1.1, b2.1, pl0, by show (0 : Nat) ≤ _; omega, hi.1, hi.2.1, hi.2.2⟩, Nat.le_refl _⟩
/-- What an act that is kept was put into is read as the act, plainly. -/
theorem rd_enc (x : Ac) (hx : keptF x = true) (hw : wfA x) (y : Rt) (h : rdR (encA x) y) : y.2.2 = plA x := by
  obtain ⟨k1, t1, f1, n1, p, m, tm, ky, vl, lb⟩ := x
  obtain ⟨w1, w2, w3, w4, w5, w6, w7⟩ := hw
  have w1 : rng k1 := w1
  have w2 : rng t1 := w2
  have w5 : rng tm := w5
  have w6 : rng ky := w6
  have w7 : rng vl := w7
  have r0 : rng 0 := rngk (by decide) (by decide)
  have r1 : rng 1 := rngk (by decide) (by decide)
  have hdrop : ∀ (n : Int) (r : List Int), (enc 9 (zz n) ++ r).drop (enc 9 (zz n)).length = r := fun n r => List.drop_left
  have hcons : ∀ (n : Int) (l : List Int), puts (n :: l) = enc 9 (zz n) ++ puts l := fun n l => rfl
  by_cases h3 : k1 = 3
  · subst h3
    have he : encA (3, t1, f1, n1, p, m, tm, ky, vl, lb) = puts [3] := by unfold encA; rw [hx]; rfl
    rw [he] at h
    unfold rdR at h
    rw [hcons, nr_put 3 w1, if_pos rfl] at h
    rw [h]; rfl
  · have e3 : (k1 == 3) = false := by simpa using h3
    by_cases h1 : k1 = 1
    · subst h1
      have he : encA (1, t1, f1, n1, p, m, tm, ky, vl, lb) = puts [1, t1] ++ encb p := by unfold encA; rw [hx]; rfl
      have hp : pir p = true := by
        have : keptF (1, t1, f1, n1, p, m, tm, ky, vl, lb) = (thr t1 && pir p) := rfl
        rw [this, Bool.and_eq_true] at hx; exact hx.2
      rw [he] at h
      unfold rdR at h
      rw [hcons, hcons, List.append_assoc, List.append_assoc, nr_put 1 w1, if_neg (by decide), if_pos rfl] at h
      simp only [hdrop] at h
      rw [nr_put t1 w2] at h
      simp only [hdrop] at h
      have hnil : puts [] ++ encb p = encb p := rfl
      rw [hnil] at h
      obtain ⟨q, ok, hd, he2⟩ := h
      obtain ⟨_, hq⟩ := (dec_enc p w3 _ hd).1 hp
      have hq : q = p := hq
      rw [he2, hq]; rfl
    · have e1 : (k1 == 1) = false := by simpa using h1
      have h2 : k1 = 2 := by
        unfold keptF at hx
        simp only [e3, e1, Bool.false_eq_true, if_false] at hx
        split at hx
        · rename_i h; simpa using h
        · cases hx
      subst h2
      cases m with
      | true =>
        have he : encA (2, t1, f1, n1, p, true, tm, ky, vl, lb) = puts [2, t1, 1, tm] := by unfold encA; rw [hx]; rfl
        rw [he] at h
        unfold rdR at h
        rw [hcons, hcons, nr_put 2 w1, if_neg (by decide), if_neg (by decide)] at h
        simp only [hdrop] at h
        rw [nr_put t1 w2] at h
        simp only [hdrop] at h
        obtain ⟨l, ok, a', c', hg, rfl⟩ := h
        obtain ⟨_, hl⟩ := gok_puts' [1, tm] (rngc r1 (rngc w5 rng0)) _ hg
        have hl : l = [1, tm] := hl
        subst hl; rfl
      | false =>
        have he : encA (2, t1, f1, n1, p, false, tm, ky, vl, lb) = puts [2, t1, 0, tm, ky, vl] := by unfold encA; rw [hx]; rfl
        rw [he] at h
        unfold rdR at h
        rw [hcons, hcons, nr_put 2 w1, if_neg (by decide), if_neg (by decide)] at h
        simp only [hdrop] at h
        rw [nr_put t1 w2] at h
        simp only [hdrop] at h
        obtain ⟨l, ok, a', c', hg, rfl⟩ := h
        obtain ⟨_, hl⟩ := gok_puts' [0, tm, ky, vl] (rngc r0 (rngc w5 (rngc w6 (rngc w7 rng0)))) _ hg
        have hl : l = [0, tm, ky, vl] := hl
        subst hl; rfl
end Go.Proofs.YtelholihncbfkaaS
