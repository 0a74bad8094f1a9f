import Derived.Test.YtlkapmaacepkjaaX5
namespace Go.Proofs.YtlkapmaacepkjaaS
open Go.RowKit
set_option linter.unusedVariables false
set_option linter.unusedSimpArgs false
/-! What an aggregate of each kind comes to, in plain words. -/
def mn : List Int → Int
  | [] => 0
  | v :: t => t.foldl min v
def mx : List Int → Int
  | [] => 0
  | v :: t => t.foldl max v
def sm (l : List Int) : Int := l.foldl (· + ·) 0
def val (k : Int) (l : List Int) : Int := if k = 1 then l.length else if k = 2 then IntKind.i64.wrap (sm l) else if k = 3 then mn l else if k = 4 then mx l else 0
theorem mn_app (l : List Int) (v : Int) : mn (l ++ [v]) = if l = [] then v else min (mn l) v := by
  cases l with
  | nil => rfl
  | cons a t => simp [mn, List.foldl_append]
theorem mx_app (l : List Int) (v : Int) : mx (l ++ [v]) = if l = [] then v else max (mx l) v := by
  cases l with
  | nil => rfl
  | cons a t => simp [mx, List.foldl_append]
theorem sm_app (l : List Int) (v : Int) : sm (l ++ [v]) = sm l + v := by simp [sm, List.foldl_append]
theorem wrap2 (a b : Int) : IntKind.i64.wrap (IntKind.i64.wrap a + b) = IntKind.i64.wrap (a + b) := by simp only [IntKind.wrap_i64]; omega
theorem len_zero (l : List Int) : (((l.length : Nat) : Int) == 0) = decide (l = []) := by
  cases l with
  | nil => rfl
  | cons a t => simp; omega
theorem tk_val (k : Int) (l : List Int) (v : Int) (hl : l.length < 4611686018427387904) : tk l.length k (val k l) v 1 = val k (l ++ [v]) := by
  unfold tk val
  by_cases h1 : k = 1
  · subst h1; simp only [if_true, beq_self_eq_true]; rw [wr _ (by omega) (by omega)]; simp
  by_cases h2 : k = 2
  · subst h2; simp only [sm_app]; simp; rw [wrap2]
  by_cases h3 : k = 3
  · subst h3
    simp only [len_zero, mn_app]
    by_cases he : l = []
    · subst he; simp
    · simp [he]; omega
  by_cases h4 : k = 4
  · subst h4
    simp only [len_zero, mx_app]
    by_cases he : l = []
    · subst he; simp
    · simp [he]; omega
  simp [h1, h2, h3, h4]
theorem addAll_val (k : Int) (l0 l : List Int) (hl : l0.length + l.length < 4611686018427387904) : addAll l0.length k (val k l0) l = ((((l0 ++ l).length : Nat) : Int), val k (l0 ++ l)) := by
  induction l generalizing l0 with
  | nil => simp [addAll]
  | cons v t ih =>
    simp only [addAll]
    simp only [List.length_cons] at hl
    have e1 : IntKind.i64.wrap ((l0.length : Int) + 1) = (((l0 ++ [v]).length : Nat) : Int) := by rw [wi _ (by omega)]; simp
    rw [tk_val k l0 v (by omega), e1, ih (l0 ++ [v]) (by simp; omega)]
    simp
theorem addAll_nil (k : Int) (l : List Int) (hl : l.length < 4611686018427387904) : addAll 0 k 0 l = (((l.length : Nat) : Int), val k l) := by
  have := addAll_val k [] l (by simpa using hl)
  have e : val k [] = 0 := by unfold val; split <;> (try split) <;> (try split) <;> (try split) <;> rfl
  rw [e] at this
  simpa using this
theorem foldl_min (l : List Int) (a : Int) : l.foldl min a ≤ a ∧ (∀ v ∈ l, l.foldl min a ≤ v) ∧ (l.foldl min a = a ∨ l.foldl min a ∈ l) := by
  induction l generalizing a with
  | nil => simp
  | cons v t ih =>
    obtain ⟨h1, h2, h3⟩ := ih (min a v)
    simp only [List.foldl_cons, List.mem_cons]
    refine ⟨by omega, ?_, ?_⟩
    · rintro u (rfl | hu)
      · omega
      · exact h2 u hu
    · rcases h3 with h3 | h3
      · rw [h3]; by_cases h : a ≤ v
        · left; omega
        · right; left; omega
      · right; right; exact h3
theorem foldl_max (l : List Int) (a : Int) : a ≤ l.foldl max a ∧ (∀ v ∈ l, v ≤ l.foldl max a) ∧ (l.foldl max a = a ∨ l.foldl max a ∈ l) := by
  induction l generalizing a with
  | nil => simp
  | cons v t ih =>
    obtain ⟨h1, h2, h3⟩ := ih (max a v)
    simp only [List.foldl_cons, List.mem_cons]
    refine ⟨by omega, ?_, ?_⟩
    · rintro u (rfl | hu)
      · omega
      · exact h2 u hu
    · rcases h3 with h3 | h3
      · rw [h3]; by_cases h : v ≤ a
        · left; omega
        · right; left; omega
      · right; right; exact h3
theorem mn_le (l : List Int) (v : Int) (h : v ∈ l) : mn l ≤ v := by
  cases l with
  | nil => cases h
  | cons a t =>
    have := foldl_min t a
    rcases List.mem_cons.1 h with rfl | h
    · exact this.1
    · exact this.2.1 v h
theorem mn_mem (l : List Int) (h : l ≠ []) : mn l ∈ l := by
  cases l with
  | nil => exact absurd rfl h
  | cons a t =>
    rcases (foldl_min t a).2.2 with h | h
    · show t.foldl min a ∈ _; rw [h]; simp
    · exact List.mem_cons_of_mem _ h
theorem le_mx (l : List Int) (v : Int) (h : v ∈ l) : v ≤ mx l := by
  cases l with
  | nil => cases h
  | cons a t =>
    have := foldl_max t a
    rcases List.mem_cons.1 h with rfl | h
    · exact this.1
    · exact this.2.1 v h
theorem mx_mem (l : List Int) (h : l ≠ []) : mx l ∈ l := by
  cases l with
  | nil => exact absurd rfl h
  | cons a t =>
    rcases (foldl_max t a).2.2 with h | h
    · show t.foldl max a ∈ _; rw [h]; simp
    · exact List.mem_cons_of_mem _ h
/-- The beginning of a slice, of its own. -/
theorem o_append0 {P : Program} {n : Nat} {ops : Array Oper} {rest : List Oper} {e : Env} {H : HP} {Φ : Post} {d : Nat} {ty : TypeId} {ps : String} {af : Array Edge} {x y : Operand} {st el sz bt : Nat} {z : List Value} [f : Slc P st el sz bt z] {a b : Option Addr} {cap k ck : Nat} {l news : List Value} {R : HP} {u : Array TypeId} (hd : d < n) (hx : ev e x = .slice a 0 cap) (hy : ev e y = .slice b k ck) (hu : u = #[st, st])
    [ho : HasO H el sz a 0 cap l R] [hrd : RdC R b news] (h0 : l = []) (hl : news.length = k * sz) (h1 : ∀ v ∈ news, v.oneCell' = true) (hb : k * bt ≤ 140737488355328) (hk : k ≤ maxLen)
    (c : ∀ a' cap', Ops P n ops rest (put e d (.slice a' k cap')) (ow el sz a' k cap' news * R) Φ) : Ops P n ops (⟨some d, .call ⟨.builtin .append, #[x, y], u⟩, ty, ps, af, none⟩ :: rest) e H Φ := by
  refine o_append hd hx hy hu hl h1 (by simpa using hb) (by simpa using hk) (fun a' cap' => ?_)
  subst h0
  simpa using c a' cap'
/-- The beginning of a row, to read. -/
theorem o_own (K : Nat) {P : Program} {n : Nat} {ops : Array Oper} {rest : List Oper} {e : Env} {H : HP} {Φ : Post} {d : Nat} {ty : TypeId} {ps : String} {af : Array Edge} {x y : Operand} {a : Option Addr} {cap st el bt : Nat} {z : List Value} {k k2 : IntKind} {i : Int} {l : List Int} [f : Slc P st el 1 bt z] [hrd : RdC H a (ints k l)] (hd : d < n) (hx : ev e x = .slice a l.length cap) (hy : ev e y = .int k2 i)
    (hi : i = ((min l.length K : Nat) : Int)) (hc : l.length ≤ cap) (c : ∀ a' ck, (∀ H' [RdC H' a (ints k l)], RdC H' a' (ints k (l.take K))) → Ops P n ops rest (put e d (.slice a' (l.take K).length ck)) H Φ) :
    Ops P n ops (⟨some d, .slice st x none (some y) none, ty, ps, af, none⟩ :: rest) e H Φ := by
  have hh : min l.length K = (l.take K).length := by simp [Nat.min_comm]
  refine o_slice_r (l := 0) (h := min l.length K) hd hx ⟨_, _, hy, by omega, by omega, by omega⟩ rfl (by omega) (fun a' hr => ?_)
  rw [Nat.sub_zero, hh]
  refine c a' _ (fun H' h => ?_)
  have := hr H'
  have e1 : (List.drop (0 * 1) (ints k l)).take ((min l.length K - 0) * 1) = ints k (l.take K) := by
    rw [Nat.zero_mul, List.drop_zero, Nat.sub_zero, Nat.mul_one]
    simp only [ints, ← List.map_take]
    congr 1
    rw [List.take_eq_take_iff]; omega
  rw [e1] at this
  exact this
end Go.Proofs.YtlkapmaacepkjaaS
