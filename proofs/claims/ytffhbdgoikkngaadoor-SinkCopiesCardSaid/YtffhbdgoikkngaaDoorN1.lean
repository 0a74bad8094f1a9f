import Derived.Test.YtffhbdgoikkngaaDoorM5
namespace Go.Proofs.YtffhbdgoikkngaaDoorS
open Go.RowKit
set_option linter.unusedVariables false
set_option linter.unusedSimpArgs false
def tab : List Int := [0, 1, 56, 2, 57, 49, 28, 3, 61, 58, 42, 50, 38, 29, 17, 4, 62, 47, 59, 36, 45, 43, 51, 22, 53, 39, 33, 30, 24, 18, 12, 5, 63, 55, 48, 27, 60, 41, 37, 16, 46, 35, 44, 21, 52, 32, 23, 11, 54, 26, 40, 15, 34, 20, 31, 10, 25, 14, 19, 9, 13, 8, 7, 6]
def TB : List Value := ints .u8 tab
theorem tab_get0 : ∀ i : Fin 64, tab[(((1#64 <<< i.val) * 285870213051353865#64) >>> 58).toNat]? = some (i.val : Int) := by decide +kernel
theorem tab_get (i : Nat) (hi : i < 64) : TB[(((1#64 <<< i) * 285870213051353865#64) >>> 58).toNat]? = some (.int .u8 (i : Int)) := by
  have h := tab_get0 ⟨i, hi⟩
  unfold TB ints
  rw [List.getElem?_map, h]
  rfl
set_option linter.unusedVariables false
set_option linter.unusedSimpArgs false
attribute [local irreducible] Ops Ex Spec T V QO OA Rn
theorem tzeros (H : HP) (x : BitVec 64) [hr : RdC H (some ⟨0, 0, none⟩) TB] (hx : x ≠ 0) : Spec Tryd.prog 13 [.int .u64 (U x)] H (X := Unit) (fun _ => .int .i64 (tz x : Int)) (fun _ => True) (fun _ => H) := by
  obtain ⟨i, hi, hb, hl⟩ := low x hx
  have h0 : (U x == 0) = false := by
    rw [← U_zero, U_eq]; exact decide_eq_false hx
  have e1 := shr_U (x &&& -x) 58 (by decide)
  have hidx : U (((1#64 <<< i) * 285870213051353865#64) >>> 58) < 64 := by
    unfold U
    have : (((1#64 <<< i) * 285870213051353865#64) >>> 58).toNat < 64 := by
      rw [BitVec.toNat_ushiftRight, Nat.shiftRight_eq_div_pow]
      have := (((1#64 <<< i) * 285870213051353865#64)).isLt
      omega
    omega
  have h1 := hidx
  have h2 : 0 ≤ U (((1#64 <<< i) * 285870213051353865#64) >>> 58) := (U_lt _).1
  have ec : IntKind.u64.wrap (bits .and .u64 (U x) (IntKind.u64.wrap (0 - U x)) * 285870213051353865) = U ((1#64 <<< i) * 285870213051353865#64) := by
    rw [neg_U, and_U, and_neg x i hi hb hl]
    exact mul_U _ 285870213051353865#64
  have e3 : (IntKind.u64.wrap (bits .and .u64 (U x) (IntKind.u64.wrap (0 - U x)) * 285870213051353865)).fdiv (2 ^ min (Int.toNat 58) IntKind.u64.bits) = U (((1#64 <<< i) * 285870213051353865#64) >>> 58) := by
    rw [ec]; exact shr_U _ 58 (by decide)
  have hv : TB[(U (((1#64 <<< i) * 285870213051353865#64) >>> 58)).toNat * 1]? = some (.int .u8 (i : Int)) := by
    rw [Nat.mul_one, U_toNat]
    exact tab_get i hi
  have hw : IntKind.i64.wrap (i : Int) = (i : Int) := by rw [IntKind.wrap_i64]; omega
  rw [tz_eq x i hi hb hl]
  refine spec_of Tryd.func13 rfl Tryd.ntmps13 rfl ?_
  repeat' (first | (refine ex_regk (id := 0) (ts := [0]) ?_; ((try (first | refine o_as (v := .int _ _) (by decide) rfl ?_ | refine o_as (by decide) rfl ?_)) <;> (try (refine ops_nilk ?_; intro _)) <;> (try ((first | refine keep_cons (v := .int _ _) rfl ?_ | refine keep_cons (v := _) rfl ?_))) <;> (try refine keep_nil ?_))) | (refine ex_regk (id := 1) (ts := [0, 4]) ?_; ((try (first | refine o_mv (v := .int _ _) (by decide) rfl ?_ | refine o_mv (by decide) rfl ?_)) <;> (try (refine o_int (by decide) rfl rfl rfl ?_)) <;> (try (refine ops_nilk ?_; intro _)) <;> (try ((first | refine keep_cons (v := .int _ _) rfl ?_ | refine keep_cons (v := _) rfl ?_) <;> (first | refine keep_cons (v := .bool _) rfl ?_ | refine keep_cons (v := _) rfl ?_))) <;> (try refine keep_nil ?_))) | refine ex_seq ?_ | refine ex_block ?_ | refine ex_ret ?_ | refine ex_skip ?_ | refine ex_exit ?_ | refine ex_cond_t rfl ?_ | refine ex_cond_f rfl ?_ | refine ex_cond_t (congrArg Value.bool (by assumption)) ?_ | refine ex_cond_f (congrArg Value.bool (by assumption)) ?_ | (refine ex_split rfl ?_ ?_ <;> intro hc))
  repeat' (first | (refine ex_regk (id := 3) (ts := [2]) ?_; ((try (first | refine o_mv (v := .int _ _) (by decide) rfl ?_ | refine o_mv (by decide) rfl ?_)) <;> (try (first | refine o_mv (v := .int _ _) (by decide) rfl ?_ | refine o_mv (by decide) rfl ?_)) <;> (try (refine o_neg (by decide) rfl ?_)) <;> (try (refine o_int (by decide) rfl rfl rfl ?_)) <;> (try (refine o_int (by decide) rfl rfl rfl ?_)) <;> (try (refine o_shr (by decide) rfl rfl (by first | decide | assumption | omega) ?_)) <;> (try ((rw [e3]; refine o_indexA (by decide) rfl rfl h2 h1 ?_))) <;> (try (refine o_load_rb (by decide) rfl hv ?_)) <;> (try (refine o_conv (by decide) rfl ?_)) <;> (try (first | refine o_as (v := .int _ _) (by decide) rfl ?_ | refine o_as (by decide) rfl ?_)) <;> (try (refine ops_nilk ?_; intro _)) <;> (try ((first | refine keep_cons (v := .int _ _) rfl ?_ | refine keep_cons (v := _) rfl ?_))) <;> (try refine keep_nil ?_))) | refine ex_seq ?_ | refine ex_block ?_ | refine ex_ret ?_ | refine ex_skip ?_ | refine ex_exit ?_ | refine ex_cond_t rfl ?_ | refine ex_cond_f rfl ?_ | refine ex_cond_t (congrArg Value.bool (by assumption)) ?_ | refine ex_cond_f (congrArg Value.bool (by assumption)) ?_ | (refine ex_split rfl ?_ ?_ <;> intro hc))
  rw [hw]
  exact fin (.inr rfl) () (resl1 rfl (rv_tmp rfl)) trivial (Ent.refl _)
theorem o_appendI {P : Program} {n : Nat} {ops : Array Oper} {rest : List Oper} {e : Env} {H : HP} {Φ : Post} {d : Nat} {ty : TypeId} {ps : String} {af : Array Edge} {x y : Operand} {st el bt : Nat} {z : List Value} [f : Slc P st el 1 bt z] {a b : Option Addr} {cap ck : Nat} {l news : List Value} {xs ys : List Int} {k : IntKind} {R : HP} {u : Array TypeId} (hd : d < n) (hx : ev e x = .slice a xs.length cap) (hy : ev e y = .slice b ys.length ck) (hu : u = #[st, st])
    [ho : HasO H el 1 a xs.length cap l R] [hrd : RdC R b news] (h0 : l = ints k xs) (hn : news = ints k ys) (hb : (xs.length + ys.length) * bt ≤ 140737488355328) (hk : xs.length + ys.length ≤ maxLen)
    (c : ∀ a' cap', Ops P n ops rest (put e d (.slice a' (xs ++ ys).length cap')) (ow el 1 a' (xs ++ ys).length cap' (ints k (xs ++ ys)) * R) Φ) : Ops P n ops (⟨some d, .call ⟨.builtin .append, #[x, y], u⟩, ty, ps, af, none⟩ :: rest) e H Φ := by
  subst h0; subst hn
  refine o_append hd hx hy hu (by simp [ints_len]) ints_one hb hk (fun a' cap' => ?_)
  have := c a' cap'
  rw [List.length_append] at this
  simpa [ints] using this
def idi (x : BitVec 64) : List Int := (ids x).map (fun n : Nat => (n : Int))
theorem idi_len (x : BitVec 64) : (idi x).length ≤ 64 := by unfold idi; rw [List.length_map]; exact ids_le x
theorem tz_cons (x : BitVec 64) (hx : x ≠ 0) : idi x = (tz x : Int) :: idi (x &&& (x - 1#64)) := by
  obtain ⟨i, hi, hb, hl⟩ := low x hx
  unfold idi
  rw [ids_cons x i hi hb hl, tz_eq x i hi hb hl, List.map_cons]
theorem ids_ (H : HP) (x : BitVec 64) [hr : RdC H (some ⟨0, 0, none⟩) TB] : Spec Tryd.prog 7 [.int .u64 (U x)] H (X := Option Addr × Nat) (fun y => .slice y.1 (idi x).length y.2) (fun _ => True) (fun y => ow 3 1 y.1 (idi x).length y.2 (ints .i64 (idi x)) * H) := by
  have hxl := idi_len x
  refine spec_of Tryd.func7 rfl Tryd.ntmps7 rfl ?_
  repeat' (first | (refine ex_regk (id := 0) (ts := [0]) ?_; ((try (first | refine o_as (v := .slice _ _ _) (by decide) rfl ?_ | refine o_as (by decide) rfl ?_)) <;> (try (refine ops_nilk ?_; intro _)) <;> (try ((first | refine keep_cons (v := .int _ _) rfl ?_ | refine keep_cons (v := _) rfl ?_))) <;> (try refine keep_nil ?_))) | (refine ex_regk (id := 1) (ts := [0, 3]) ?_; ((try (first | refine o_as (v := .slice _ _ _) (by decide) rfl ?_ | refine o_as (by decide) rfl ?_)) <;> (try (refine ops_nilk ?_; intro _)) <;> (try ((first | refine keep_cons (v := .int _ _) rfl ?_ | refine keep_cons (v := _) rfl ?_) <;> (first | refine keep_cons (v := .slice _ _ _) rfl ?_ | refine keep_cons (v := _) rfl ?_))) <;> (try refine keep_nil ?_))) | refine ex_seq ?_ | refine ex_block ?_ | refine ex_ret ?_ | refine ex_skip ?_ | refine ex_exit ?_ | refine ex_cond_t rfl ?_ | refine ex_cond_f rfl ?_ | refine ex_cond_t (congrArg Value.bool (by assumption)) ?_ | refine ex_cond_f (congrArg Value.bool (by assumption)) ?_ | (refine ex_split rfl ?_ ?_ <;> intro hc))
  refine Ex.ent ?_ (Ent.ow_none 3 1 _)
  refine ex_loopE (fun mm e H' => ∃ g, ∃ m : BitVec 64, ∃ a, ∃ cap, ∃ out : List Int, e = put (put g 0 (.int .u64 (U m))) 3 (.slice a out.length cap) ∧ H' = ow 3 1 a out.length cap (ints .i64 out) * H ∧ mm = (idi m).length ∧ out ++ idi m = idi x) (m := (idi x).length) ⟨_, x, none, 0, [], rfl, rfl, rfl, rfl⟩ ?_ ?_
  · exact Ent.ofEq rfl
  · rintro mm e H' ⟨g, m, a, cap, out, rfl, rfl, rfl, hs⟩
    by_cases hm : m = 0
    · subst hm
      have h0 : (U 0 != 0) = false := rfl
      have e0 : idi 0 = [] := by unfold idi; rw [ids_zero]; rfl
      rw [e0, List.append_nil] at hs
      subst hs
      repeat' (first | (refine ex_regk (id := 2) (ts := [0, 3, 5]) ?_; ((try (first | refine o_mv (v := .int _ _) (by decide) rfl ?_ | refine o_mv (by decide) rfl ?_)) <;> (try (refine o_int (by decide) rfl rfl rfl ?_)) <;> (try (refine ops_nilk ?_; intro _)) <;> (try ((first | refine keep_cons (v := .int _ _) rfl ?_ | refine keep_cons (v := _) rfl ?_) <;> (first | refine keep_cons (v := .slice _ _ _) rfl ?_ | refine keep_cons (v := _) rfl ?_) <;> (first | refine keep_cons (v := .bool _) rfl ?_ | refine keep_cons (v := _) rfl ?_))) <;> (try refine keep_nil ?_))) | (refine ex_regk (id := 5) (ts := [2]) ?_; ((try (first | refine o_mv (v := .slice _ _ _) (by decide) rfl ?_ | refine o_mv (by decide) rfl ?_)) <;> (try (first | refine o_as (v := .slice _ _ _) (by decide) rfl ?_ | refine o_as (by decide) rfl ?_)) <;> (try (refine ops_nilk ?_; intro _)) <;> (try ((first | refine keep_cons (v := .slice _ _ _) rfl ?_ | refine keep_cons (v := _) rfl ?_))) <;> (try refine keep_nil ?_))) | refine ex_seq ?_ | refine ex_block ?_ | refine ex_ret ?_ | refine ex_skip ?_ | refine ex_exit ?_ | refine ex_cond_t rfl ?_ | refine ex_cond_f rfl ?_ | refine ex_cond_t (congrArg Value.bool (by assumption)) ?_ | refine ex_cond_f (congrArg Value.bool (by assumption)) ?_ | (refine ex_split rfl ?_ ?_ <;> intro hc))
      exact fin (.inr rfl) (_, _) (resl1 rfl (rv_tmp rfl)) trivial ent_take
    · have h0 : (U m != 0) = true := by
        have : (U m == 0) = false := by rw [← U_zero, U_eq]; exact decide_eq_false hm
        show (!(U m == 0)) = true
        rw [this]; rfl
      have hc := tz_cons m hm
      rw [hc] at hs
      have hol : out.length ≤ 63 := by
        have := congrArg List.length hs
        rw [List.length_append, List.length_cons] at this; omega
      repeat' (first | (refine ex_regk (id := 2) (ts := [0, 3, 5]) ?_; ((try (first | refine o_mv (v := .int _ _) (by decide) rfl ?_ | refine o_mv (by decide) rfl ?_)) <;> (try (refine o_int (by decide) rfl rfl rfl ?_)) <;> (try (refine ops_nilk ?_; intro _)) <;> (try ((first | refine keep_cons (v := .int _ _) rfl ?_ | refine keep_cons (v := _) rfl ?_) <;> (first | refine keep_cons (v := .slice _ _ _) rfl ?_ | refine keep_cons (v := _) rfl ?_) <;> (first | refine keep_cons (v := .bool _) rfl ?_ | refine keep_cons (v := _) rfl ?_))) <;> (try refine keep_nil ?_))) | (refine ex_regk (id := 4) (ts := [0, 3]) ?_; ((try (first | refine o_mv (v := .slice _ _ _) (by decide) rfl ?_ | refine o_mv (by decide) rfl ?_)) <;> (try (first | refine o_mv (v := .int _ _) (by decide) rfl ?_ | refine o_mv (by decide) rfl ?_)) <;> (try (refine o_callH (tzeros _ m hm) (by first | exact True.intro | (show _ < _; decide)) rfl rfl (fun _ _ => ?_))) <;> (try ((refine o_buildSlice (by decide) rfl rfl rfl (fun _ => ?_)))) <;> (try (refine o_appendI (xs := out) (ys := [(tz m : Int)]) (by decide) rfl rfl rfl rfl rfl (by simp; omega) (by simp only [maxLen, List.length_cons, List.length_nil]; omega) (fun a' cap' => ?_))) <;> (try (first | refine o_as (v := .slice _ _ _) (by decide) rfl ?_ | refine o_as (by decide) rfl ?_)) <;> (try (refine ops_nilk ?_; intro _)) <;> (try ((first | refine keep_cons (v := .int _ _) rfl ?_ | refine keep_cons (v := _) rfl ?_) <;> (first | refine keep_cons (v := .slice _ _ _) rfl ?_ | refine keep_cons (v := _) rfl ?_))) <;> (try refine keep_nil ?_))) | (refine ex_regk (id := 3) (ts := [0, 3]) ?_; ((try (first | refine o_mv (v := .int _ _) (by decide) rfl ?_ | refine o_mv (by decide) rfl ?_)) <;> (try (first | refine o_mv (v := .int _ _) (by decide) rfl ?_ | refine o_mv (by decide) rfl ?_)) <;> (try (refine o_int (by decide) rfl rfl rfl ?_)) <;> (try (refine o_int (by decide) rfl rfl rfl ?_)) <;> (try (first | refine o_as (v := .int _ _) (by decide) rfl ?_ | refine o_as (by decide) rfl ?_)) <;> (try (refine ops_nilk ?_; intro _)) <;> (try ((first | refine keep_cons (v := .int _ _) rfl ?_ | refine keep_cons (v := _) rfl ?_) <;> (first | refine keep_cons (v := .slice _ _ _) rfl ?_ | refine keep_cons (v := _) rfl ?_))) <;> (try refine keep_nil ?_))) | refine ex_seq ?_ | refine ex_block ?_ | refine ex_ret ?_ | refine ex_skip ?_ | refine ex_exit ?_ | refine ex_cond_t rfl ?_ | refine ex_cond_f rfl ?_ | refine ex_cond_t (congrArg Value.bool (by assumption)) ?_ | refine ex_cond_f (congrArg Value.bool (by assumption)) ?_ | (refine ex_split rfl ?_ ?_ <;> intro hc))
      rw [sub1_U, and_U]
      refine ⟨(idi (m &&& (m - 1#64))).length, by rw [hc, List.length_cons]; omega, _, ?_, _, m &&& (m - 1#64), a', cap', out ++ [(tz m : Int)], rfl, rfl, rfl, by rw [← hs]; simp⟩
      exact ent_take
end Go.Proofs.YtffhbdgoikkngaaDoorS
