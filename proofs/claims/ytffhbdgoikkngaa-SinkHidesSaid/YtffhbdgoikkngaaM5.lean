import Derived.Test.YtffhbdgoikkngaaM4
namespace Go.Proofs.YtffhbdgoikkngaaS
open Go.RowKit
set_option linter.unusedVariables false
set_option linter.unusedSimpArgs false
def bl (x y : BitVec 64) : Bool := decide (x &&& ~~~y = 0)
abbrev O : BitVec 64 := BitVec.allOnes 64
theorem bext (x y : BitVec 64) : x = y ↔ ∀ i, i < 64 → x.getLsbD i = y.getLsbD i := ⟨fun h i _ => by rw [h], fun h => BitVec.eq_of_getLsbD_eq h⟩
theorem bl_iff (x y : BitVec 64) : bl x y = true ↔ ∀ i, i < 64 → x.getLsbD i = true → y.getLsbD i = true := by
  unfold bl
  rw [decide_eq_true_eq, bext]
  refine forall_congr' fun i => forall_congr' fun hi => ?_
  show (x &&& ~~~y).getLsbD i = (0#64).getLsbD i ↔ _
  rw [BitVec.getLsbD_and, BitVec.getLsbD_not, BitVec.getLsbD_zero]
  cases x.getLsbD i <;> cases y.getLsbD i <;> simp [hi]
theorem gj (x y : BitVec 64) (i : Nat) : (x ||| y).getLsbD i = (x.getLsbD i || y.getLsbD i) := BitVec.getLsbD_or
theorem gm (x y : BitVec 64) (i : Nat) : (x &&& y).getLsbD i = (x.getLsbD i && y.getLsbD i) := BitVec.getLsbD_and
theorem gz (i : Nat) : (0 : BitVec 64).getLsbD i = false := BitVec.getLsbD_zero
theorem go_ (i : Nat) (h : i < 64) : O.getLsbD i = true := by rw [BitVec.getLsbD_allOnes]; exact decide_eq_true h
theorem jn2 (a b : BitVec 64) (i : Nat) : (jn [a, b] 0).getLsbD i = (a.getLsbD i || b.getLsbD i) := by simp only [jn, List.foldl_cons, List.foldl_nil, gj, gz, Bool.false_or]
theorem jn3 (a b c : BitVec 64) (i : Nat) : (jn [a, b, c] 0).getLsbD i = (a.getLsbD i || b.getLsbD i || c.getLsbD i) := by simp only [jn, List.foldl_cons, List.foldl_nil, gj, gz, Bool.false_or]
theorem mt2 (a b : BitVec 64) (i : Nat) (h : i < 64) : (mt [a, b] O).getLsbD i = (a.getLsbD i && b.getLsbD i) := by simp only [mt, List.foldl_cons, List.foldl_nil, gm, go_ i h, Bool.true_and]
theorem mt3 (a b c : BitVec 64) (i : Nat) (h : i < 64) : (mt [a, b, c] O).getLsbD i = (a.getLsbD i && b.getLsbD i && c.getLsbD i) := by simp only [mt, List.foldl_cons, List.foldl_nil, gm, go_ i h, Bool.true_and]
theorem U_ne (x y : BitVec 64) (h : x = y) : (U x != U y) = false := by rw [h]; simp
theorem U_is (x y : BitVec 64) (h : x = y) : (U x == U y) = true := by rw [h]; simp
def hs (m : BitVec 64) (k : Int) : Bool := !decide (m &&& bt k = 0)
theorem bt_get (k i : Nat) (hk : k < 64) (hi : i < 64) : (bt (k : Int)).getLsbD i = decide (i = k) := by
  unfold bt
  rw [if_pos ⟨by omega, by omega⟩, Int.toNat_natCast, BitVec.getLsbD_shiftLeft]
  by_cases h : i = k
  · subst h; simp [hk]
  · by_cases h2 : i < k
    · simp [h, h2]
    · have : i - k ≠ 0 := by omega
      simp [h, BitVec.getLsbD_one, this]
theorem hs_get (m : BitVec 64) (k : Nat) (hk : k < 64) : hs m (k : Int) = m.getLsbD k := by
  unfold hs
  cases h : m.getLsbD k with
  | true =>
    have : m &&& bt (k : Int) ≠ 0 := fun e => by
      have := congrArg (fun z => z.getLsbD k) e
      simp only [gm, bt_get k k hk hk, h] at this
      exact absurd this (by rw [show ((0 : BitVec 64).getLsbD k) = false from gz k]; simp)
    rw [decide_eq_false this]; rfl
  | false =>
    have : m &&& bt (k : Int) = 0 := (bext _ _).2 fun i hi => by
      rw [gm, bt_get k i hk hi, gz]
      by_cases e : i = k
      · subst e; rw [h]; rfl
      · simp [e]
    rw [decide_eq_true this]; rfl
theorem hs_out (m : BitVec 64) (k : Int) (h : k < 0 ∨ 64 ≤ k) : hs m k = false := by
  unfold hs bt
  rw [if_neg (by omega)]
  have : m &&& (0 : BitVec 64) = 0 := (bext _ _).2 fun i _ => by rw [gm, gz, Bool.and_false]
  rw [decide_eq_true this]; rfl
theorem filt_add {α : Type} (p q : α → Bool) (l : List α) : (l.filter fun x => p x || q x).length + (l.filter fun x => p x && q x).length = (l.filter p).length + (l.filter q).length := by
  induction l with
  | nil => rfl
  | cons x t ih => cases hp : p x <;> cases hq : q x <;> simp [List.filter_cons, hp, hq] <;> omega
theorem ids_add (a b : BitVec 64) : (ids (jn [a, b] 0)).length + (ids (mt [a, b] O)).length = (ids a).length + (ids b).length := by
  have h1 : ids (jn [a, b] 0) = (List.range 64).filter fun i => a.getLsbD i || b.getLsbD i := by
    unfold ids; exact List.filter_congr fun i _ => jn2 a b i
  have h2 : ids (mt [a, b] O) = (List.range 64).filter fun i => a.getLsbD i && b.getLsbD i := by
    unfold ids; exact List.filter_congr fun i hi => mt2 a b i (List.mem_range.1 hi)
  rw [h1, h2]; exact filt_add _ _ _
theorem ids_one0 : ∀ i : Fin 64, ids (1#64 <<< i.val) = [i.val] := by decide +kernel
theorem ids_bt (k : Nat) (hk : k < 64) : ids (bt (k : Int)) = [k] := by
  unfold bt
  rw [if_pos ⟨by omega, by omega⟩, Int.toNat_natCast]
  exact ids_one0 ⟨k, hk⟩
theorem off1 (k : Int) : off_ [k] 0 = bt k := (bext _ _).2 fun i _ => by simp only [off_, List.foldl_cons, List.foldl_nil, gj, gz, Bool.false_or]
theorem off2 (k : Int) : off_ [k, k] 0 = bt k := (bext _ _).2 fun i _ => by simp only [off_, List.foldl_cons, List.foldl_nil, gj, gz, Bool.false_or, Bool.or_self]
set_option linter.unusedVariables false
set_option linter.unusedSimpArgs false
attribute [local irreducible] Ops Ex Spec T V QO OA Rn
theorem belowV {a b : BitVec 64} {v : Bool} (h : bl a b = v) : Spec Try.prog 30 [.int .u64 (U a), .int .u64 (U b)] 1 (X := Unit) (fun _ => .bool v) (fun _ => True) (fun _ => 1) := by
  subst h; exact below a b
theorem join_ (H : HP) (a : Option Addr) (l : List (BitVec 64)) (cap m : Nat) {cs : List Value} [hr : RdC H a cs] (hm : m = l.length) (hcs : cs = us l) (hl : l.length ≤ 1000000) : Spec Try.prog 23 [.slice a m cap] H (X := Unit) (fun _ => .int .u64 (U (jn l 0))) (fun _ => True) (fun _ => H) := by
  subst hm; exact join H a l cap hcs hl
theorem hasV {m : BitVec 64} {k : Int} {v : Bool} (h : hs m k = v) : Spec Try.prog 20 [.int .u64 (U m), .int .i64 k] 1 (X := Unit) (fun _ => .bool v) (fun _ => True) (fun _ => 1) := by
  subst h; exact has m k
theorem ofE (H : HP) (a : Option Addr) (l : List Int) (cap m : Nat) (r : BitVec 64) {cs : List Value} [hr : RdC H a cs] (hm : m = l.length) (hcs : cs = ints .i64 l) (hl : l.length ≤ 1000000) (he : off_ l 0 = r) : Spec Try.prog 24 [.slice a m cap] H (X := Unit) (fun _ => .int .u64 (U r)) (fun _ => True) (fun _ => H) := by
  subst hm; subst he; exact of_ H a l cap hcs hl
theorem countE {x : BitVec 64} {n : Nat} (h : (ids x).length = n) : Spec Try.prog 18 [.int .u64 (U x)] 1 (X := Unit) (fun _ => .int .i64 (n : Int)) (fun _ => True) (fun _ => 1) := by
  subst h; exact count x
def wn (a lo hi : Int) : Int := lo + (if a.tmod (hi - lo + 1) < 0 then a.tmod (hi - lo + 1) + hi - lo + 1 else a.tmod (hi - lo + 1))
theorem wn_bd (a lo hi : Int) (h : lo ≤ hi) : lo ≤ wn a lo hi ∧ wn a lo hi ≤ hi := by
  have h1 := Int.tmod_lt_of_pos a (b := hi - lo + 1) (by omega)
  have h2 := Int.lt_tmod_of_pos a (b := hi - lo + 1) (by omega)
  unfold wn
  generalize a.tmod (hi - lo + 1) = q at *
  split <;> omega
theorem within (a lo hi : Int) (h : lo ≤ hi) (hlo : -4611686018427387904 ≤ lo) (hhi : hi ≤ 4611686018427387904) (hd : hi - lo ≤ 4611686018427387904) : Spec Try.prog 13 [.int .i64 a, .int .i64 lo, .int .i64 hi] 1 (X := Unit) (fun _ => .int .i64 (wn a lo hi)) (fun _ => True) (fun _ => 1) := by
  have e1 : IntKind.i64.wrap (IntKind.i64.wrap (hi - lo) + 1) = hi - lo + 1 := by rw [IntKind.wrap_i64, IntKind.wrap_i64]; omega
  have h1 := Int.tmod_lt_of_pos a (b := hi - lo + 1) (by omega)
  have h2 := Int.lt_tmod_of_pos a (b := hi - lo + 1) (by omega)
  have hne : IntKind.i64.wrap (IntKind.i64.wrap (hi - lo) + 1) ≠ 0 := by omega
  refine spec_of Try.func13 rfl Try.ntmps13 rfl ?_
  repeat' (first | (refine ex_regk (id := 0) (ts := [0, 1, 2]) ?_; ((try (first | refine o_as (v := .int _ _) (by decide) rfl ?_ | refine o_as (by decide) rfl ?_)) <;> (try (refine ops_nilk ?_; intro _)) <;> (try ((first | refine keep_cons (v := .int _ _) rfl ?_ | refine keep_cons (v := _) rfl ?_) <;> (first | refine keep_cons (v := .int _ _) rfl ?_ | refine keep_cons (v := _) rfl ?_) <;> (first | refine keep_cons (v := .int _ _) rfl ?_ | refine keep_cons (v := _) rfl ?_))) <;> (try refine keep_nil ?_))) | (refine ex_regk (id := 1) (ts := [0, 1, 2]) ?_; ((try (first | refine o_mv (v := .int _ _) (by decide) rfl ?_ | refine o_mv (by decide) rfl ?_)) <;> (try (first | refine o_mv (v := .int _ _) (by decide) rfl ?_ | refine o_mv (by decide) rfl ?_)) <;> (try (first | refine o_mv (v := .int _ _) (by decide) rfl ?_ | refine o_mv (by decide) rfl ?_)) <;> (try (refine o_int (by decide) rfl rfl rfl ?_)) <;> (try (refine o_int (by decide) rfl rfl rfl ?_)) <;> (try (refine o_rem (by decide) rfl rfl (by first | decide | assumption | omega) ?_)) <;> (try (first | refine o_as (v := .int _ _) (by decide) rfl ?_ | refine o_as (by decide) rfl ?_)) <;> (try (refine ops_nilk ?_; intro _)) <;> (try ((first | refine keep_cons (v := .int _ _) rfl ?_ | refine keep_cons (v := _) rfl ?_) <;> (first | refine keep_cons (v := .int _ _) rfl ?_ | refine keep_cons (v := _) rfl ?_) <;> (first | refine keep_cons (v := .int _ _) rfl ?_ | refine keep_cons (v := _) rfl ?_))) <;> (try refine keep_nil ?_))) | (refine ex_regk (id := 2) (ts := [0, 1, 2, 14]) ?_; ((try (first | refine o_mv (v := .int _ _) (by decide) rfl ?_ | refine o_mv (by decide) rfl ?_)) <;> (try (refine o_int (by decide) rfl rfl rfl ?_)) <;> (try (refine ops_nilk ?_; intro _)) <;> (try ((first | refine keep_cons (v := .int _ _) rfl ?_ | refine keep_cons (v := _) rfl ?_) <;> (first | refine keep_cons (v := .int _ _) rfl ?_ | refine keep_cons (v := _) rfl ?_) <;> (first | refine keep_cons (v := .int _ _) rfl ?_ | refine keep_cons (v := _) rfl ?_) <;> (first | refine keep_cons (v := .bool _) rfl ?_ | refine keep_cons (v := _) rfl ?_))) <;> (try refine keep_nil ?_))) | (refine ex_regk (id := 3) (ts := [0, 1]) ?_; ((try (first | refine o_mv (v := .int _ _) (by decide) rfl ?_ | refine o_mv (by decide) rfl ?_)) <;> (try (first | refine o_mv (v := .int _ _) (by decide) rfl ?_ | refine o_mv (by decide) rfl ?_)) <;> (try (refine o_int (by decide) rfl rfl rfl ?_)) <;> (try (first | refine o_mv (v := .int _ _) (by decide) rfl ?_ | refine o_mv (by decide) rfl ?_)) <;> (try (refine o_int (by decide) rfl rfl rfl ?_)) <;> (try (refine o_int (by decide) rfl rfl rfl ?_)) <;> (try (first | refine o_as (v := .int _ _) (by decide) rfl ?_ | refine o_as (by decide) rfl ?_)) <;> (try (refine ops_nilk ?_; intro _)) <;> (try ((first | refine keep_cons (v := .int _ _) rfl ?_ | refine keep_cons (v := _) rfl ?_) <;> (first | refine keep_cons (v := .int _ _) rfl ?_ | refine keep_cons (v := _) rfl ?_))) <;> (try refine keep_nil ?_))) | (refine ex_regk (id := 4) (ts := [6]) ?_; ((try (first | refine o_mv (v := .int _ _) (by decide) rfl ?_ | refine o_mv (by decide) rfl ?_)) <;> (try (first | refine o_mv (v := .int _ _) (by decide) rfl ?_ | refine o_mv (by decide) rfl ?_)) <;> (try (refine o_int (by decide) rfl rfl rfl ?_)) <;> (try (first | refine o_as (v := .int _ _) (by decide) rfl ?_ | refine o_as (by decide) rfl ?_)) <;> (try (refine ops_nilk ?_; intro _)) <;> (try ((first | refine keep_cons (v := .int _ _) rfl ?_ | refine keep_cons (v := _) rfl ?_))) <;> (try refine keep_nil ?_))) | refine ex_seq ?_ | refine ex_block ?_ | refine ex_ret ?_ | refine ex_skip ?_ | refine ex_exit ?_ | refine ex_cond_t rfl ?_ | refine ex_cond_f rfl ?_ | refine ex_cond_t (congrArg Value.bool (by assumption)) ?_ | refine ex_cond_f (congrArg Value.bool (by assumption)) ?_ | (refine ex_split rfl ?_ ?_ <;> intro hc))
  all_goals
    rw [e1] at *
    refine fin (.inr rfl) () (resl1 rfl (rv_tmp (congrArg (Value.int .i64) ?_))) trivial (Ent.refl _)
    unfold wn
    generalize a.tmod (hi - lo + 1) = q at *
  · have hq : q < 0 := by simpa using hc
    rw [if_pos hq]
    simp only [IntKind.wrap_i64]
    omega
  · have hq : ¬ q < 0 := by simpa using hc
    rw [if_neg hq]
    simp only [IntKind.wrap_i64]
    omega
end Go.Proofs.YtffhbdgoikkngaaS
