-- PRINTED BY print.sh 35421559b90ae4d0a3588c463048766b98c2df88dd9212a6774a882060cdf62d: not written by this session
import Derived.Test.YtdjijnpcpbjfoaaPPipeRunsx0
import Derived.Test.YtdjijnpcpbjfoaaPPipeRunsx2
import Derived.Test.YtdjijnpcpbjfoaaPPipeRunsx3
namespace Go.Proofs.Ytdjijnpcpbjfoaa.PPipeRuns
open Go.RowKit Go.Proofs.YtdjijnpcpbjfoaaW.PrintWords Go.Proofs.YtdjijnpcpbjfoaaW.PrintLast Go.Proofs.YtdjijnpcpbjfoaaW.PrintMore
attribute [local go_sem] max2_int min2_int max_two min_two max_three min_three max_four min_four   -- for this text's walks alone
set_option linter.unusedVariables false
set_option linter.unusedSimpArgs false

/-! ### pipe_Decode: function 9 -/
mutual
def pipe_Decode.j0 : Nat → List Int → Bool → Option ((List (S23)) × Int × Int × Int × Int × Int × Bool)
  | 0, _, _ => none
  | k + 1, x4, x35 => if x35 = true then (some (([] : List (S23)), 0, 0, 0, 0, 0, false)) else (if 0 < (x4.length : Int) then (if 1 < (x4.length : Int) then (if 2 < (x4.length : Int) then (if 3 < (x4.length : Int) then (if 4 < (x4.length : Int) then (pipe_Decode.l0 k x4 6 ([] : List (S23)) (rd x4 0) (rd x4 1) (rd x4 2) (rd x4 3) (rd x4 4)) else (none)) else (none)) else (none)) else (none)) else (none))
def pipe_Decode.l0 : Nat → List Int → Int → List (S23) → Int → Int → Int → Int → Int → Option ((List (S23)) × Int × Int × Int × Int × Int × Bool)
  | 0, _, _, _, _, _, _, _, _ => none
  | k + 1, x4, x7, x159000, x159001, x159002, x159003, x159004, x159005 => if x7 < (x4.length : Int) then (if 0 ≤ x7 then (if 0 ≤ (wrap64 (x7 + 1)) then (if (wrap64 (x7 + 1)) < (x4.length : Int) then (if x159000.length < 8796093022208 then (pipe_Decode.l0 k x4 (wrap64 (x7 + 2)) (x159000 ++ [(⟨rd x4 x7, rd x4 (wrap64 (x7 + 1))⟩ : S23)]) x159001 x159002 x159003 x159004 x159005) else (none)) else (none)) else (none)) else (none)) else ((pipe_Right.f k x159000 x159001 x159002 x159003 x159004 x159005).bind fun t164 => (if t164 = true then (some (x159000, x159001, x159002, x159003, x159004, x159005, true)) else (some (([] : List (S23)), 0, 0, 0, 0, 0, false))))
end
def pipe_Decode.f (k : Nat) (l0 : List Int) : Option ((List (S23)) × Int × Int × Int × Int × Int × Bool) := (vint_Get.f k l0).bind fun bt148 => (if bt148.2 = true then (if (bt148.1.length : Int) < 6 then (pipe_Decode.j0 k bt148.1 true) else (if ((bt148.1.length : Int) % 2) = 0 then (if 5 < (bt148.1.length : Int) then (pipe_Decode.j0 k bt148.1 ((rd bt148.1 5) != (wrap64 ((wrap64 ((bt148.1.length : Int) / 2)) - 3)))) else (none)) else (pipe_Decode.j0 k bt148.1 true))) else (pipe_Decode.j0 k bt148.1 true))
theorem pipe_Decode.mono_l : ∀ k, (∀ y0 y1, LeO (pipe_Decode.j0 k y0 y1) (pipe_Decode.j0 (k + 1) y0 y1)) ∧ (∀ y0 y1 y2 y3 y4 y5 y6 y7, LeO (pipe_Decode.l0 k y0 y1 y2 y3 y4 y5 y6 y7) (pipe_Decode.l0 (k + 1) y0 y1 y2 y3 y4 y5 y6 y7))
  | 0 => ⟨fun _ _ r h => by simp [pipe_Decode.j0] at h, fun _ _ _ _ _ _ _ _ r h => by simp [pipe_Decode.l0] at h⟩
  | k + 1 => by
    obtain ⟨ih0, ih1⟩ := pipe_Decode.mono_l k
    refine ⟨?_, ?_⟩
    · intro y0 y1
      unfold pipe_Decode.j0
      repeat' first
      | (with_reducible exact ih0 _ _)
      | (with_reducible exact ih1 _ _ _ _ _ _ _ _)
      | (with_reducible exact pipe_Right.mono _ _ _ _ _ _ _)
      | (with_reducible exact vint_Get.mono _ _)
      | (with_reducible exact LeO.refl _)
      | (with_reducible exact LeO.none _)
      | (with_reducible refine LeO.ite ?_ ?_)
      | (with_reducible refine LeO.bind ?_ (fun _ => ?_))
      | exact ih0 _ _
      | exact ih1 _ _ _ _ _ _ _ _
      | exact pipe_Right.mono _ _ _ _ _ _ _
      | exact vint_Get.mono _ _
      | exact LeO.none _
      | refine LeO.ite ?_ ?_
      | refine LeO.bind ?_ (fun _ => ?_)
    · intro y0 y1 y2 y3 y4 y5 y6 y7
      unfold pipe_Decode.l0
      repeat' first
      | (with_reducible exact ih0 _ _)
      | (with_reducible exact ih1 _ _ _ _ _ _ _ _)
      | (with_reducible exact pipe_Right.mono _ _ _ _ _ _ _)
      | (with_reducible exact vint_Get.mono _ _)
      | (with_reducible exact LeO.refl _)
      | (with_reducible exact LeO.none _)
      | (with_reducible refine LeO.ite ?_ ?_)
      | (with_reducible refine LeO.bind ?_ (fun _ => ?_))
      | exact ih0 _ _
      | exact ih1 _ _ _ _ _ _ _ _
      | exact pipe_Right.mono _ _ _ _ _ _ _
      | exact vint_Get.mono _ _
      | exact LeO.none _
      | refine LeO.ite ?_ ?_
      | refine LeO.bind ?_ (fun _ => ?_)
theorem pipe_Decode.mono : ∀ a0 k, LeO (pipe_Decode.f k a0) (pipe_Decode.f (k + 1) a0) := by
  intro a0 k
  obtain ⟨ih0, ih1⟩ := pipe_Decode.mono_l k
  unfold pipe_Decode.f
  repeat' first
      | (with_reducible exact ih0 _ _)
      | (with_reducible exact ih1 _ _ _ _ _ _ _ _)
      | (with_reducible exact pipe_Right.mono _ _ _ _ _ _ _)
      | (with_reducible exact vint_Get.mono _ _)
      | (with_reducible exact LeO.refl _)
      | (with_reducible exact LeO.none _)
      | (with_reducible refine LeO.ite ?_ ?_)
      | (with_reducible refine LeO.bind ?_ (fun _ => ?_))
      | exact ih0 _ _
      | exact ih1 _ _ _ _ _ _ _ _
      | exact pipe_Right.mono _ _ _ _ _ _ _
      | exact vint_Get.mono _ _
      | exact LeO.none _
      | refine LeO.ite ?_ ?_
      | refine LeO.bind ?_ (fun _ => ?_)
def pipe_Decode.T4 : Bool × List (List Nat × List Nat) := (true, [([], []), ([0], [0]), ([1], [1]), ([], []), ([3], [3]), ([4], [4]), ([], []), ([6], [6]), ([7], [7]), ([], []), ([9], [9]), ([10], [10]), ([], []), ([12], [12]), ([13], [13]), ([2, 5, 8, 11, 14], [2, 5, 8, 11, 14]), ([], []), ([16, 15, 0, 1, 2, 3, 4, 5, 6, 7, 8, 9, 10, 11, 12, 13, 14, 15, 16], [15, 16])])
def pipe_Decode.B4 : List Nat := [0, 1, 3, 0, 8, 24, 0, 64, 192, 0, 512, 1536, 0, 4096, 12288, 32767, 0, 131071]
theorem pipe_Decode.tab4 : rtab .any (opsOf Try.f9 4) = pipe_Decode.T4 := by kernel_rfl
theorem pipe_Decode.bits4 : waitsOk pipe_Decode.T4.2 pipe_Decode.B4 = true := by kernel_rfl
def pipe_Decode.T8 : Bool × List (List Nat × List Nat) := (true, [([], []), ([0], [0]), ([], []), ([], []), ([2, 3], [2, 3]), ([4], [4]), ([], []), ([], []), ([7], [7]), ([6, 8], [6, 8]), ([9], [9]), ([5, 10], [5, 10]), ([11], [11]), ([1, 12], [1, 12]), ([0, 1, 2, 3, 4, 5, 6, 7, 8, 9, 10, 11, 12, 13], []), ([14, 13, 13, 0, 1, 2, 3, 4, 5, 6, 7, 8, 9, 10, 11, 12, 13], [13, 14])])
def pipe_Decode.B8 : List Nat := [0, 1, 0, 0, 12, 28, 0, 0, 128, 448, 960, 2044, 4092, 8191, 16383, 32767]
theorem pipe_Decode.tab8 : rtab .any (opsOf Try.f9 8) = pipe_Decode.T8 := by kernel_rfl
theorem pipe_Decode.bits8 : waitsOk pipe_Decode.T8.2 pipe_Decode.B8 = true := by kernel_rfl
set_option maxHeartbeats 8000000 in
set_option maxRecDepth 100000 in
theorem pipe_Decode.calls (k : Nat) (A0 : Option Addr) (c0 : Nat) (l0 : List Int) (r1 : List (S23)) (r2 : Int) (r3 : Int) (r4 : Int) (r5 : Int) (r6 : Int) (r7 : Bool) (w : World) (hr0 : Kd.C (Kd.int .u8) w A0 l0.length l0) (hc0 : l0.length ≤ c0) (h : pipe_Decode.f k l0 = some (r1, r2, r3, r4, r5, r6, r7)) :
    Calls Try.prog 9 #[.slice A0 l0.length c0] w fun e w' => ∃ v0_ : Value, e = .returned (.tuple #[.agg #[v0_, .int .i64 r2, .int .i64 r3, .int .i64 r4, .int .i64 r5, .int .i64 r6], .bool r7]) ∧ Kd.R k23 23 w' w.heap.size (fun _ => True) v0_ r1 ∧ Below w.heap.size w w' := by
  have hu26 := Try.underlying26
  have hu23 := Try.underlying23
  have HR0 := Aside0.mk hr0
  have HC0 := Aside0.mk hc0
  clear hr0 hc0
  have HB := Aside0.mk (Below.refl w.heap.size w)
  have H : ((vint_Get.f k l0).bind fun bt148 => (if bt148.2 = true then (if (bt148.1.length : Int) < 6 then (pipe_Decode.j0 k bt148.1 true) else (if ((bt148.1.length : Int) % 2) = 0 then (if 5 < (bt148.1.length : Int) then (pipe_Decode.j0 k bt148.1 ((rd bt148.1 5) != (wrap64 ((wrap64 ((bt148.1.length : Int) / 2)) - 3)))) else (none)) else (pipe_Decode.j0 k bt148.1 true))) else (pipe_Decode.j0 k bt148.1 true))) = some (r1, r2, r3, r4, r5, r6, r7) := h
  clear h
  replace H := Option.bind_eq_some_iff.mp H
  obtain ⟨⟨t148, t151⟩, A20, H⟩ := H
  replace H : (if t151 = true then (if (t148.length : Int) < 6 then (pipe_Decode.j0 k t148 true) else (if ((t148.length : Int) % 2) = 0 then (if 5 < (t148.length : Int) then (pipe_Decode.j0 k t148 ((rd t148 5) != (wrap64 ((wrap64 ((t148.length : Int) / 2)) - 3)))) else (none)) else (pipe_Decode.j0 k t148 true))) else (pipe_Decode.j0 k t148 true)) = some (r1, r2, r3, r4, r5, r6, r7) := H
  have A2 := Aside0.mk A20
  clear A20
  have HC3 := Aside0.mk H
  clear H
  go_enter Try.func9, Try.ntmps9
  go_upto_region 2 with (first | ((with_reducible refine gate_dst (N := 2) rfl ?_); (try (refine gate_guard (by rfl) ?_; dsimp only)); refine box_event ?hg (N := 2) ?hd (cs := #[.slice none 0 0, .int .i64 0, .int .i64 0, .int .i64 0, .int .i64 0, .int .i64 0]) (t := 26) ?hr ?_; (case hd => rfl); (case hg => rfl); (case hr => first | (go_simp; done) | (go_simp; rfl)); intro gb147 hg w4 hbox hb; have n0_ := Aside0.mk (below_step (by repeat (first | (with_reducible first | exact HB.out | apply below_alloc | apply pw_below_drewN | apply below_drew1) | exact HB.out)) hb); have n1_ := Aside0.mk (hbox); have n2_ := Aside0.mk ((by rw [hg]; exact (below_size (by repeat (first | (with_reducible first | exact HB.out | apply below_alloc | apply pw_below_drewN | apply below_drew1) | exact HB.out))) : w.heap.size ≤ gb147)); have n3_ := Aside0.mk ((by rw [hg]; exact (below_size (by repeat (first | (with_reducible first | exact HB.out | apply below_alloc | apply pw_below_drewN | apply below_drew1) | exact HB.out))) : w.heap.size ≤ gb147)); clear HB; have HB := n0_; have BK147 := n1_; have GW147 := n2_; have GE147 := n3_; clear n0_ n1_ n2_ n3_; clear hb hbox hg) | ((with_reducible refine gate_callee (f := 23) rfl ?_); refine goesL_ (some 10) rfl rfl Try.func23 (by kernel_rfl) rfl #[.slice A0 l0.length c0] rfl (by (try simp only [List.map_toArray, List.map_cons, List.map_nil]); first | done | rfl | (simp only [List.length_drop, List.length_take]; rfl)) ?_; (with_reducible refine (vint_Get.calls k (fun k_ => k_ < w.heap.size) _ _ l0 t148 t151 _ ?side1 A2.out).mono ?_); (case side1 => exact Kd.V_mk HC0.out (Kd.F_below (Kd.C_F (Kd.heap_int .u8) HR0.out) (by repeat (first | (with_reducible first | exact HB.out | apply below_alloc | apply pw_below_drewN | apply below_drew1 | refine below_set ?_ GE147.out) | exact HB.out)))); rintro e w5 ⟨v149, rfl, ho0, hb⟩; refine ⟨_, rfl, ?_⟩; have n0_ := Aside0.mk (Kd.R_lower (Kd.R_mono (ok' := fun k_ => True) ho0 (fun _ hk_ => trivial)) (below_size (by repeat (first | (with_reducible first | exact HB.out | apply below_alloc | apply pw_below_drewN | apply below_drew1 | refine below_set ?_ GE147.out) | exact HB.out)))); have n1_ := Aside0.mk (blk_below (g := gb147) (o := .cells #[.slice none 0 0, .int .i64 0, .int .i64 0, .int .i64 0, .int .i64 0, .int .i64 0] 26 (0, 0)) (by (with_reducible repeat (first | refine blk_drewN ?_ _ | refine blk_drew ?_ | refine blk_alloc ?_ _)); exact BK147.out) hb); have n2_ := Aside0.mk (below_step (by repeat (first | (with_reducible first | exact HB.out | apply below_alloc | apply pw_below_drewN | apply below_drew1 | refine below_set ?_ GE147.out) | exact HB.out)) hb); clear BK147; clear HB; have HO150 := n0_; have BK147 := n1_; have HB := n2_; clear n0_ n1_ n2_; (try clear hb); (try clear hb2); (try clear hk); (try clear hi); (try clear ho0)))
  (try simp only [Act.put, List.setIfInBounds_toArray, List.set_cons_zero, List.set_cons_succ])
  go_cut [35] (fun v35 wc => ∃ (kq : Nat) (x35_2 : Bool), v35 = .bool x35_2 ∧ Aside0 (pipe_Decode.j0 kq t148 x35_2 = some (r1, r2, r3, r4, r5, r6, r7)) ∧ Aside0 (kq ≤ k) ∧ Aside0 (Kd.R (Kd.int .i64) 3 wc w.heap.size (fun _ => True) v149 t148) ∧ Aside0 (wc.heap[gb147]? = some (.cells #[(.slice none 0 0), .int .i64 0, .int .i64 0, .int .i64 0, .int .i64 0, .int .i64 0] 26 (0, 0))) ∧ Aside0 (Below w.heap.size w wc))
  case first =>
    have H := HC3.out
    clear HC3
    by_cases c6 : t151 = true
    · subst c6
      have H1 : (if (t148.length : Int) < 6 then (pipe_Decode.j0 k t148 true) else (if ((t148.length : Int) % 2) = 0 then (if 5 < (t148.length : Int) then (pipe_Decode.j0 k t148 ((rd t148 5) != (wrap64 ((wrap64 ((t148.length : Int) / 2)) - 3)))) else (none)) else (pipe_Decode.j0 k t148 true))) = some (r1, r2, r3, r4, r5, r6, r7) := by rw [if_pos rfl] at H; exact H
      clear H
      have H := H1
      clear H1
      by_cases c7 : (t148.length : Int) < 6
      · rw [if_pos c7] at H
        have c7b0 : decide ((t148.length : Int) < 6) = true := decide_eq_true c7
        have c7b1 : decide (t148.length < 6) = true := decide_eq_true (by omega)
        clear c7
        (first | rw [c7b0] | (simp only [i64_w, i32_w]; rw [c7b0]) | skip)
        have H' := Aside0.mk H
        clear H
        obtain ⟨Ao8, co8, eo8⟩ := Kd.R_slice HO150.out
        subst eo8
        go_wp2
        go_meet
        case rel => exact ⟨_, (true), (by first | rfl | (simp; done) | (simp [*]; done)), H', ⟨by first | omega | exact Nat.le_refl _⟩, ⟨by (with_reducible repeat (first | apply Kd.R_alloc | apply Kd.R_drewN | apply Kd.R_drew)); exact HO150.out⟩, ⟨by (with_reducible repeat (first | refine blk_drewN ?_ _ | refine blk_drew ?_ | refine blk_alloc ?_ _)); exact BK147.out⟩, ⟨by repeat (first | (with_reducible first | exact HB.out | apply below_alloc | apply pw_below_drewN | apply below_drew1 | refine below_set ?_ GE147.out) | exact HB.out)⟩⟩
      · rw [if_neg c7] at H
        have c7b0 : decide ((t148.length : Int) < 6) = false := decide_eq_false c7
        have c7b1 : decide (t148.length < 6) = false := decide_eq_false (by omega)
        clear c7
        (first | rw [c7b0] | (simp only [i64_w, i32_w]; rw [c7b0]) | skip)
        by_cases c9 : ((t148.length : Int) % 2) = 0
        · rw [if_pos c9] at H
          have c9b0 : (((t148.length : Int) % 2) == 0) = true := beq_iff_eq.mpr c9
          have c9b1 : (((t148.length : Int) % 2) != 0) = false := bne_eq_false_iff_eq.mpr c9
          clear c9
          by_cases c10 : 5 < (t148.length : Int)
          · rw [if_pos c10] at H
            have c10b0 : decide (5 < (t148.length : Int)) = true := decide_eq_true c10
            have c10b1 : decide (5 < t148.length) = true := decide_eq_true (by omega)
            clear c10
            have H' := Aside0.mk H
            clear H
            obtain ⟨Ao11, co11, eo11⟩ := Kd.R_slice HO150.out
            subst eo11
            have p152 : 0 ≤ (5 : Int) := (by omega)
            have q152 : 5 < (t148.length : Int) := of_decide_eq_true (by first | (with_reducible assumption) | assumption)
            obtain ⟨ad152, e152, hx152_0⟩ := Kd.at_int (Kd.R_reads' HO150.out).2.2 5 p152 q152
            cases e152
            (try simp only [show (5 : Int).toNat = 5 from rfl, Nat.reduceMul, Nat.reduceEqDiff, Go.Addr.add, ↓reduceIte] at hx152_0)
            have qi152 : (5 < t148.length) = True := eq_true (by omega)
            (try rw [show ((5 : Int)).toNat = 5 from rfl] at hx152_0)
            replace p152 := eq_true p152
            replace q152 := eq_true q152
            go_wp2
            go_meet
            case rel => exact ⟨_, (((rd t148 5) != (wrap64 ((wrap64 ((t148.length : Int) / 2)) - 3)))), (by first | rfl | (simp; done) | (simp [*]; done)), H', ⟨by first | omega | exact Nat.le_refl _⟩, ⟨by (with_reducible repeat (first | apply Kd.R_alloc | apply Kd.R_drewN | apply Kd.R_drew)); exact HO150.out⟩, ⟨by (with_reducible repeat (first | refine blk_drewN ?_ _ | refine blk_drew ?_ | refine blk_alloc ?_ _)); exact BK147.out⟩, ⟨by repeat (first | (with_reducible first | exact HB.out | apply below_alloc | apply pw_below_drewN | apply below_drew1 | refine below_set ?_ GE147.out) | exact HB.out)⟩⟩
          · rw [if_neg c10] at H
            exact absurd H (by simp)
        · rw [if_neg c9] at H
          have c9b0 : (((t148.length : Int) % 2) == 0) = false := beq_eq_false_iff_ne.mpr c9
          have c9b1 : (((t148.length : Int) % 2) != 0) = true := bne_iff_ne.mpr c9
          have H' := Aside0.mk H
          clear H
          obtain ⟨Ao12, co12, eo12⟩ := Kd.R_slice HO150.out
          subst eo12
          go_wp2
          go_meet
          case rel => exact ⟨_, (true), (by first | rfl | (simp; done) | (simp [*]; done)), H', ⟨by first | omega | exact Nat.le_refl _⟩, ⟨by (with_reducible repeat (first | apply Kd.R_alloc | apply Kd.R_drewN | apply Kd.R_drew)); exact HO150.out⟩, ⟨by (with_reducible repeat (first | refine blk_drewN ?_ _ | refine blk_drew ?_ | refine blk_alloc ?_ _)); exact BK147.out⟩, ⟨by repeat (first | (with_reducible first | exact HB.out | apply below_alloc | apply pw_below_drewN | apply below_drew1 | refine below_set ?_ GE147.out) | exact HB.out)⟩⟩
    · replace c6 := Bool.eq_false_iff.mpr c6
      subst c6
      have H1 : (pipe_Decode.j0 k t148 true) = some (r1, r2, r3, r4, r5, r6, r7) := by rw [if_neg (show ¬ (false = true) by decide)] at H; exact H
      clear H
      have H := H1
      clear H1
      have H' := Aside0.mk H
      clear H
      go_wp2
      go_meet
      case rel => exact ⟨_, (true), (by first | rfl | (simp; done) | (simp [*]; done)), H', ⟨by first | omega | exact Nat.le_refl _⟩, ⟨by (with_reducible repeat (first | apply Kd.R_alloc | apply Kd.R_drewN | apply Kd.R_drew)); exact HO150.out⟩, ⟨by (with_reducible repeat (first | refine blk_drewN ?_ _ | refine blk_drew ?_ | refine blk_alloc ?_ _)); exact BK147.out⟩, ⟨by repeat (first | (with_reducible first | exact HB.out | apply below_alloc | apply pw_below_drewN | apply below_drew1 | refine below_set ?_ GE147.out) | exact HB.out)⟩⟩
  case rest =>
    clear HC3
    try clear c1
    try clear p1
    try clear q1
    try clear hx1
    try clear qi1
    try clear c2
    try clear p2
    try clear c6
    try clear p6
    try clear c7
    try clear c7b0
    try clear c7b1
    try clear c9
    try clear c9b0
    try clear c9b1
    try clear c10
    try clear c10b0
    try clear c10b1
    try clear hx152_0
    try clear p152
    try clear q152
    obtain ⟨kq, x35_2, rfl, HA, HJ2, HO_4, BK147, HB⟩ := hcut
    cases kq with
    | zero => exact absurd HA.out (by simp [pipe_Decode.j0])
    | succ kj2 =>
      have H := HA.out
      clear HA
      simp only [pipe_Decode.j0] at H
      by_cases c13 : x35_2 = true
      · subst c13
        have H1 : (some (([] : List (S23)), 0, 0, 0, 0, 0, false)) = some (r1, r2, r3, r4, r5, r6, r7) := by rw [if_pos rfl] at H; exact H
        clear H
        have H := H1
        clear H1
        simp only [Option.some.injEq, Prod.mk.injEq] at H
        obtain ⟨rfl, rfl, rfl, rfl, rfl, rfl, rfl⟩ := H
        have hcz14_0 : wc.cell? ⟨gb147, 0, none⟩ = some (.slice none 0 0) := (blk_cell BK147.out 0).trans rfl
        have hcz14_1 : wc.cell? ⟨gb147, 1, none⟩ = some (.int .i64 0) := (blk_cell BK147.out 1).trans rfl
        have hcz14_2 : wc.cell? ⟨gb147, 2, none⟩ = some (.int .i64 0) := (blk_cell BK147.out 2).trans rfl
        have hcz14_3 : wc.cell? ⟨gb147, 3, none⟩ = some (.int .i64 0) := (blk_cell BK147.out 3).trans rfl
        have hcz14_4 : wc.cell? ⟨gb147, 4, none⟩ = some (.int .i64 0) := (blk_cell BK147.out 4).trans rfl
        have hcz14_5 : wc.cell? ⟨gb147, 5, none⟩ = some (.int .i64 0) := (blk_cell BK147.out 5).trans rfl
        have hfz14_0 := blk_frozen BK147.out 0
        have hfz14_1 := blk_frozen BK147.out 1
        have hfz14_2 := blk_frozen BK147.out 2
        have hfz14_3 := blk_frozen BK147.out 3
        have hfz14_4 := blk_frozen BK147.out 4
        have hfz14_5 := blk_frozen BK147.out 5
        go_wp2
        refine bodyPost_ret (results_ct rfl _ _ gb147 26 #[.slice none 0 0, .int .i64 0, .int .i64 0, .int .i64 0, .int .i64 0, .int .i64 0] (0, 0) _ rfl (by (with_reducible repeat (first | refine blk_drewN ?_ _ | refine blk_drew ?_ | refine blk_alloc ?_ _)); refine blk_put (cs := #[.slice none 0 0, .int .i64 0, .int .i64 0, .int .i64 0, .int .i64 0, .int .i64 0]) ?_ 5 _ rfl; (with_reducible repeat (first | refine blk_drewN ?_ _ | refine blk_drew ?_ | refine blk_alloc ?_ _)); refine blk_put (cs := #[.slice none 0 0, .int .i64 0, .int .i64 0, .int .i64 0, .int .i64 0, .int .i64 0]) ?_ 4 _ rfl; (with_reducible repeat (first | refine blk_drewN ?_ _ | refine blk_drew ?_ | refine blk_alloc ?_ _)); refine blk_put (cs := #[.slice none 0 0, .int .i64 0, .int .i64 0, .int .i64 0, .int .i64 0, .int .i64 0]) ?_ 3 _ rfl; (with_reducible repeat (first | refine blk_drewN ?_ _ | refine blk_drew ?_ | refine blk_alloc ?_ _)); refine blk_put (cs := #[.slice none 0 0, .int .i64 0, .int .i64 0, .int .i64 0, .int .i64 0, .int .i64 0]) ?_ 2 _ rfl; (with_reducible repeat (first | refine blk_drewN ?_ _ | refine blk_drew ?_ | refine blk_alloc ?_ _)); refine blk_put (cs := #[.slice none 0 0, .int .i64 0, .int .i64 0, .int .i64 0, .int .i64 0, .int .i64 0]) ?_ 1 _ rfl; (with_reducible repeat (first | refine blk_drewN ?_ _ | refine blk_drew ?_ | refine blk_alloc ?_ _)); refine blk_put (cs := #[.slice none 0 0, .int .i64 0, .int .i64 0, .int .i64 0, .int .i64 0, .int .i64 0]) ?_ 0 _ rfl; (with_reducible repeat (first | refine blk_drewN ?_ _ | refine blk_drew ?_ | refine blk_alloc ?_ _)); exact BK147.out) Try.underlying26 rfl (by kernel_rfl)) rfl ?_
        exact ⟨_, by first | rfl | (simp [errW_none, errW_some] <;> rfl) | (simp [*, errW_none, errW_some] <;> rfl), by first | exact Kd.R_nil _ _ _ _ _ | exact Kd.N_nil _ _ _ _ _ | exact Kd.V_nil _ _ _ _ _ | exact Kd.Q_nil _ _ _ _ _ | exact Kd.S_nil _ _ _ _ _, by repeat (first | (with_reducible first | exact HB.out | apply below_alloc | apply pw_below_drewN | apply below_drew1 | refine below_set ?_ GE147.out) | exact HB.out)⟩
      · replace c13 := Bool.eq_false_iff.mpr c13
        subst c13
        have H1 : (if 0 < (t148.length : Int) then (if 1 < (t148.length : Int) then (if 2 < (t148.length : Int) then (if 3 < (t148.length : Int) then (if 4 < (t148.length : Int) then (pipe_Decode.l0 kj2 t148 6 ([] : List (S23)) (rd t148 0) (rd t148 1) (rd t148 2) (rd t148 3) (rd t148 4)) else (none)) else (none)) else (none)) else (none)) else (none)) = some (r1, r2, r3, r4, r5, r6, r7) := by rw [if_neg (show ¬ (false = true) by decide)] at H; exact H
        clear H
        have H := H1
        clear H1
        by_cases c15 : 0 < (t148.length : Int)
        · rw [if_pos c15] at H
          have c15b0 : decide (0 < (t148.length : Int)) = true := decide_eq_true c15
          have c15b1 : decide (0 < t148.length) = true := decide_eq_true (by omega)
          clear c15
          by_cases c16 : 1 < (t148.length : Int)
          · rw [if_pos c16] at H
            have c16b0 : decide (1 < (t148.length : Int)) = true := decide_eq_true c16
            have c16b1 : decide (1 < t148.length) = true := decide_eq_true (by omega)
            clear c16
            by_cases c17 : 2 < (t148.length : Int)
            · rw [if_pos c17] at H
              have c17b0 : decide (2 < (t148.length : Int)) = true := decide_eq_true c17
              have c17b1 : decide (2 < t148.length) = true := decide_eq_true (by omega)
              clear c17
              by_cases c18 : 3 < (t148.length : Int)
              · rw [if_pos c18] at H
                have c18b0 : decide (3 < (t148.length : Int)) = true := decide_eq_true c18
                have c18b1 : decide (3 < t148.length) = true := decide_eq_true (by omega)
                clear c18
                by_cases c19 : 4 < (t148.length : Int)
                · rw [if_pos c19] at H
                  have c19b0 : decide (4 < (t148.length : Int)) = true := decide_eq_true c19
                  have c19b1 : decide (4 < t148.length) = true := decide_eq_true (by omega)
                  clear c19
                  have H' := Aside0.mk H
                  clear H
                  try go_wp2
                  have n0_ := Aside0.mk (Kd.R_drew HO_4.out)
                  have n1_ := Aside0.mk (blk_drew BK147.out)
                  have n2_ := Aside0.mk (below_drew1 HB.out)
                  clear HO_4
                  clear BK147
                  clear HB
                  have HO_4 := n0_
                  have BK147 := n1_
                  have HB := n2_
                  clear n0_ n1_ n2_
                  obtain ⟨Ao21, co21, eo21⟩ := Kd.R_slice HO_4.out
                  (first | subst eo21 | (injection eo21 with f1_ f2_ f3_; have f4_ := f1_.symm; have f5_ := f3_.symm; clear f1_ f2_ f3_; subst f4_; subst f5_))
                  have p153 : 0 ≤ (0 : Int) := (by omega)
                  have q153 : 0 < (t148.length : Int) := of_decide_eq_true (by first | (with_reducible assumption) | assumption)
                  obtain ⟨ad153, e153, hx153_0⟩ := Kd.at_int (Kd.R_reads' HO_4.out).2.2 0 p153 q153
                  cases e153
                  have qi153 : (0 < t148.length) = True := eq_true (by omega)
                  (try rw [show ((0 : Int)).toNat = 0 from rfl] at hx153_0)
                  (try rw [Addr.add_zero'] at hx153_0)
                  replace p153 := eq_true p153
                  replace q153 := eq_true q153
                  have p154 : 0 ≤ (1 : Int) := (by omega)
                  have q154 : 1 < (t148.length : Int) := of_decide_eq_true (by first | (with_reducible assumption) | assumption)
                  obtain ⟨ad154, e154, hx154_0⟩ := Kd.at_int (Kd.R_reads' HO_4.out).2.2 1 p154 q154
                  obtain rfl : ad153 = ad154 := (by injection e154)
                  (try simp only [show (1 : Int).toNat = 1 from rfl, Nat.reduceMul, Nat.reduceEqDiff, Go.Addr.add, ↓reduceIte] at hx154_0)
                  have qi154 : (1 < t148.length) = True := eq_true (by omega)
                  (try rw [show ((1 : Int)).toNat = 1 from rfl] at hx154_0)
                  replace p154 := eq_true p154
                  replace q154 := eq_true q154
                  have p155 : 0 ≤ (2 : Int) := (by omega)
                  have q155 : 2 < (t148.length : Int) := of_decide_eq_true (by first | (with_reducible assumption) | assumption)
                  obtain ⟨ad155, e155, hx155_0⟩ := Kd.at_int (Kd.R_reads' HO_4.out).2.2 2 p155 q155
                  obtain rfl : ad153 = ad155 := (by injection e155)
                  (try simp only [show (2 : Int).toNat = 2 from rfl, Nat.reduceMul, Nat.reduceEqDiff, Go.Addr.add, ↓reduceIte] at hx155_0)
                  have qi155 : (2 < t148.length) = True := eq_true (by omega)
                  (try rw [show ((2 : Int)).toNat = 2 from rfl] at hx155_0)
                  replace p155 := eq_true p155
                  replace q155 := eq_true q155
                  have p156 : 0 ≤ (3 : Int) := (by omega)
                  have q156 : 3 < (t148.length : Int) := of_decide_eq_true (by first | (with_reducible assumption) | assumption)
                  obtain ⟨ad156, e156, hx156_0⟩ := Kd.at_int (Kd.R_reads' HO_4.out).2.2 3 p156 q156
                  obtain rfl : ad153 = ad156 := (by injection e156)
                  (try simp only [show (3 : Int).toNat = 3 from rfl, Nat.reduceMul, Nat.reduceEqDiff, Go.Addr.add, ↓reduceIte] at hx156_0)
                  have qi156 : (3 < t148.length) = True := eq_true (by omega)
                  (try rw [show ((3 : Int)).toNat = 3 from rfl] at hx156_0)
                  replace p156 := eq_true p156
                  replace q156 := eq_true q156
                  have p157 : 0 ≤ (4 : Int) := (by omega)
                  have q157 : 4 < (t148.length : Int) := of_decide_eq_true (by first | (with_reducible assumption) | assumption)
                  obtain ⟨ad157, e157, hx157_0⟩ := Kd.at_int (Kd.R_reads' HO_4.out).2.2 4 p157 q157
                  obtain rfl : ad153 = ad157 := (by injection e157)
                  (try simp only [show (4 : Int).toNat = 4 from rfl, Nat.reduceMul, Nat.reduceEqDiff, Go.Addr.add, ↓reduceIte] at hx157_0)
                  have qi157 : (4 < t148.length) = True := eq_true (by omega)
                  (try rw [show ((4 : Int)).toNat = 4 from rfl] at hx157_0)
                  replace p157 := eq_true p157
                  replace q157 := eq_true q157
                  refine start_ (n := 18) (S := fun w' => w'.cell? ad153 = some (.int .i64 (rd t148 0)) ∧ w'.cell? ⟨ad153.block, ad153.off + 1, none⟩ = some (.int .i64 (rd t148 1)) ∧ w'.cell? ⟨ad153.block, ad153.off + 2, none⟩ = some (.int .i64 (rd t148 2)) ∧ w'.cell? ⟨ad153.block, ad153.off + 3, none⟩ = some (.int .i64 (rd t148 3)) ∧ w'.cell? ⟨ad153.block, ad153.off + 4, none⟩ = some (.int .i64 (rd t148 4))) (ds := []) #[false, false, false, false, false, false, false, false, false, false, false, false, false, false, false, false, false, false] (by kernel_rfl) rfl rfl ⟨hx153_0, hx154_0, hx155_0, hx156_0, hx157_0⟩ (fun hHeld => ?_); refine with_tabW pipe_Decode.tab4 pipe_Decode.bits4 (fun HT_ HW_ => ?_)
                  generalize wc.drew = w20 at HO_4 BK147 HB hx153_0 hx154_0 hx155_0 hx156_0 hx157_0 hHeld ⊢
                  refine pure_ (i := 0) (N := some 37) (v := ?_) (a' := ?_) #[true, false, false, false, false, false, false, false, false, false, false, false, false, false, false, false, false, false] rfl rfl (any_of HT_.out (by kernel_rfl)) (fun _ _ _ h => h) (Or.inl ⟨by rfl, ?_⟩) ?_ ?_
                  rotate_left
                  · intro w'
                    go_simp
                    with_reducible rfl
                  rotate_left
                  · simp only [Act.put, List.setIfInBounds_toArray, List.set_cons_zero, List.set_cons_succ, i64_w, i32_w]
                    rfl
                  refine pure_ (i := 1) (N := some 38) (v := ?_) (a' := ?_) #[true, true, false, false, false, false, false, false, false, false, false, false, false, false, false, false, false, false] rfl rfl (any_of HT_.out (by kernel_rfl)) (fun _ _ _ h => h) (Or.inl ⟨by rfl, ?_⟩) ?_ ?_
                  rotate_left
                  · intro w'
                    go_simp
                    with_reducible rfl
                  rotate_left
                  · simp only [Act.put, List.setIfInBounds_toArray, List.set_cons_zero, List.set_cons_succ, i64_w, i32_w]
                    rfl
                  refine pure_ (i := 3) (N := some 40) (v := ?_) (a' := ?_) #[true, true, false, true, false, false, false, false, false, false, false, false, false, false, false, false, false, false] rfl rfl (any_of HT_.out (by kernel_rfl)) (fun _ _ _ h => h) (Or.inl ⟨by rfl, ?_⟩) ?_ ?_
                  rotate_left
                  · intro w'
                    go_simp
                    with_reducible rfl
                  rotate_left
                  · simp only [Act.put, List.setIfInBounds_toArray, List.set_cons_zero, List.set_cons_succ, i64_w, i32_w]
                    rfl
                  refine pure_ (i := 4) (N := some 41) (v := ?_) (a' := ?_) #[true, true, false, true, true, false, false, false, false, false, false, false, false, false, false, false, false, false] rfl rfl (any_of HT_.out (by kernel_rfl)) (fun _ _ _ h => h) (Or.inl ⟨by rfl, ?_⟩) ?_ ?_
                  rotate_left
                  · intro w'
                    go_simp
                    with_reducible rfl
                  rotate_left
                  · simp only [Act.put, List.setIfInBounds_toArray, List.set_cons_zero, List.set_cons_succ, i64_w, i32_w]
                    rfl
                  refine pure_ (i := 6) (N := some 43) (v := ?_) (a' := ?_) #[true, true, false, true, true, false, true, false, false, false, false, false, false, false, false, false, false, false] rfl rfl (any_of HT_.out (by kernel_rfl)) (fun _ _ _ h => h) (Or.inl ⟨by rfl, ?_⟩) ?_ ?_
                  rotate_left
                  · intro w'
                    go_simp
                    with_reducible rfl
                  rotate_left
                  · simp only [Act.put, List.setIfInBounds_toArray, List.set_cons_zero, List.set_cons_succ, i64_w, i32_w]
                    rfl
                  refine pure_ (i := 7) (N := some 44) (v := ?_) (a' := ?_) #[true, true, false, true, true, false, true, true, false, false, false, false, false, false, false, false, false, false] rfl rfl (any_of HT_.out (by kernel_rfl)) (fun _ _ _ h => h) (Or.inl ⟨by rfl, ?_⟩) ?_ ?_
                  rotate_left
                  · intro w'
                    go_simp
                    with_reducible rfl
                  rotate_left
                  · simp only [Act.put, List.setIfInBounds_toArray, List.set_cons_zero, List.set_cons_succ, i64_w, i32_w]
                    rfl
                  refine pure_ (i := 9) (N := some 46) (v := ?_) (a' := ?_) #[true, true, false, true, true, false, true, true, false, true, false, false, false, false, false, false, false, false] rfl rfl (any_of HT_.out (by kernel_rfl)) (fun _ _ _ h => h) (Or.inl ⟨by rfl, ?_⟩) ?_ ?_
                  rotate_left
                  · intro w'
                    go_simp
                    with_reducible rfl
                  rotate_left
                  · simp only [Act.put, List.setIfInBounds_toArray, List.set_cons_zero, List.set_cons_succ, i64_w, i32_w]
                    rfl
                  refine pure_ (i := 10) (N := some 47) (v := ?_) (a' := ?_) #[true, true, false, true, true, false, true, true, false, true, true, false, false, false, false, false, false, false] rfl rfl (any_of HT_.out (by kernel_rfl)) (fun _ _ _ h => h) (Or.inl ⟨by rfl, ?_⟩) ?_ ?_
                  rotate_left
                  · intro w'
                    go_simp
                    with_reducible rfl
                  rotate_left
                  · simp only [Act.put, List.setIfInBounds_toArray, List.set_cons_zero, List.set_cons_succ, i64_w, i32_w]
                    rfl
                  refine pure_ (i := 12) (N := some 49) (v := ?_) (a' := ?_) #[true, true, false, true, true, false, true, true, false, true, true, false, true, false, false, false, false, false] rfl rfl (any_of HT_.out (by kernel_rfl)) (fun _ _ _ h => h) (Or.inl ⟨by rfl, ?_⟩) ?_ ?_
                  rotate_left
                  · intro w'
                    go_simp
                    with_reducible rfl
                  rotate_left
                  · simp only [Act.put, List.setIfInBounds_toArray, List.set_cons_zero, List.set_cons_succ, i64_w, i32_w]
                    rfl
                  refine pure_ (i := 13) (N := some 50) (v := ?_) (a' := ?_) #[true, true, false, true, true, false, true, true, false, true, true, false, true, true, false, false, false, false] rfl rfl (any_of HT_.out (by kernel_rfl)) (fun _ _ _ h => h) (Or.inl ⟨by rfl, ?_⟩) ?_ ?_
                  rotate_left
                  · intro w'
                    go_simp
                    with_reducible rfl
                  rotate_left
                  · simp only [Act.put, List.setIfInBounds_toArray, List.set_cons_zero, List.set_cons_succ, i64_w, i32_w]
                    rfl
                  refine take_ (i := 2) (N := some 39) (v := ?_) (a' := ?_) #[true, true, true, true, true, false, true, true, false, true, true, false, true, true, false, false, false, false] rfl rfl (take_ofW HT_.out HW_.out (by kernel_rfl)) (fun _ _ _ h => h) (Or.inl ⟨by rfl, ?_⟩) hHeld ?_ ?_
                  rotate_left
                  · rintro w' ⟨s0, s1, s2, s3, s4⟩
                    go_simp
                    with_reducible rfl
                  rotate_left
                  · simp only [Act.put, List.setIfInBounds_toArray, List.set_cons_zero, List.set_cons_succ, i64_w, i32_w]
                    rfl
                  refine take_ (i := 5) (N := some 42) (v := ?_) (a' := ?_) #[true, true, true, true, true, true, true, true, false, true, true, false, true, true, false, false, false, false] rfl rfl (take_ofW HT_.out HW_.out (by kernel_rfl)) (fun _ _ _ h => h) (Or.inl ⟨by rfl, ?_⟩) hHeld ?_ ?_
                  rotate_left
                  · rintro w' ⟨s0, s1, s2, s3, s4⟩
                    go_simp
                    with_reducible rfl
                  rotate_left
                  · simp only [Act.put, List.setIfInBounds_toArray, List.set_cons_zero, List.set_cons_succ, i64_w, i32_w]
                    rfl
                  refine take_ (i := 8) (N := some 45) (v := ?_) (a' := ?_) #[true, true, true, true, true, true, true, true, true, true, true, false, true, true, false, false, false, false] rfl rfl (take_ofW HT_.out HW_.out (by kernel_rfl)) (fun _ _ _ h => h) (Or.inl ⟨by rfl, ?_⟩) hHeld ?_ ?_
                  rotate_left
                  · rintro w' ⟨s0, s1, s2, s3, s4⟩
                    go_simp
                    with_reducible rfl
                  rotate_left
                  · simp only [Act.put, List.setIfInBounds_toArray, List.set_cons_zero, List.set_cons_succ, i64_w, i32_w]
                    rfl
                  refine take_ (i := 11) (N := some 48) (v := ?_) (a' := ?_) #[true, true, true, true, true, true, true, true, true, true, true, true, true, true, false, false, false, false] rfl rfl (take_ofW HT_.out HW_.out (by kernel_rfl)) (fun _ _ _ h => h) (Or.inl ⟨by rfl, ?_⟩) hHeld ?_ ?_
                  rotate_left
                  · rintro w' ⟨s0, s1, s2, s3, s4⟩
                    go_simp
                    with_reducible rfl
                  rotate_left
                  · simp only [Act.put, List.setIfInBounds_toArray, List.set_cons_zero, List.set_cons_succ, i64_w, i32_w]
                    rfl
                  refine take_ (i := 14) (N := some 51) (v := ?_) (a' := ?_) #[true, true, true, true, true, true, true, true, true, true, true, true, true, true, true, false, false, false] rfl rfl (take_ofW HT_.out HW_.out (by kernel_rfl)) (fun _ _ _ h => h) (Or.inl ⟨by rfl, ?_⟩) hHeld ?_ ?_
                  rotate_left
                  · rintro w' ⟨s0, s1, s2, s3, s4⟩
                    go_simp
                    with_reducible rfl
                  rotate_left
                  · simp only [Act.put, List.setIfInBounds_toArray, List.set_cons_zero, List.set_cons_succ, i64_w, i32_w]
                    rfl
                  refine pure_ (i := 15) (N := some 52) (v := ?_) (a' := ?_) #[true, true, true, true, true, true, true, true, true, true, true, true, true, true, true, true, false, false] rfl rfl (any_of HT_.out (by kernel_rfl)) (fun _ _ _ h => h) (Or.inl ⟨by rfl, ?_⟩) ?_ ?_
                  rotate_left
                  · intro w'
                    go_simp
                    with_reducible rfl
                  rotate_left
                  · simp only [Act.put, List.setIfInBounds_toArray, List.set_cons_zero, List.set_cons_succ, i64_w, i32_w]
                    rfl
                  refine one_ (i := 16) (N := some 6) #[true, true, true, true, true, true, true, true, true, true, true, true, true, true, true, true, true, false] rfl rfl (one_of HT_.out (by kernel_rfl)) (by decide) (fun K hK => ?_)
                  refine box_step ?hg (N := 6) ?hd (cs := #[.slice none 0 0, .int .i64 0, .int .i64 0, .int .i64 0, .int .i64 0, .int .i64 0]) (t := 26) ?hr ?_; (case hd => rfl); (case hg => rfl); (case hr => first | (go_simp; done) | (go_simp; rfl))
                  intro gb158 hg w22 hbox hb
                  have HS0_ := (hb.cell (World.block_lt_of_cell? _ _ (hHeld.1))).trans (hHeld.1)
                  have HS1_ := (hb.cell (World.block_lt_of_cell? _ _ (hHeld.2.1))).trans (hHeld.2.1)
                  have HS2_ := (hb.cell (World.block_lt_of_cell? _ _ (hHeld.2.2.1))).trans (hHeld.2.2.1)
                  have HS3_ := (hb.cell (World.block_lt_of_cell? _ _ (hHeld.2.2.2.1))).trans (hHeld.2.2.2.1)
                  have HS4_ := (hb.cell (World.block_lt_of_cell? _ _ (hHeld.2.2.2.2))).trans (hHeld.2.2.2.2)
                  have n0_ := Aside0.mk (Kd.R_below (by (with_reducible repeat (first | apply Kd.R_alloc | apply Kd.R_drewN | apply Kd.R_drew)); exact HO_4.out) hb)
                  have n1_ := Aside0.mk (blk_below (g := gb147) (o := .cells #[.slice none 0 0, .int .i64 0, .int .i64 0, .int .i64 0, .int .i64 0, .int .i64 0] 26 (0, 0)) (by (with_reducible repeat (first | refine blk_drewN ?_ _ | refine blk_drew ?_ | refine blk_alloc ?_ _)); exact BK147.out) hb)
                  have n2_ := Aside0.mk (below_step (by repeat (first | (with_reducible first | exact HB.out | apply below_alloc | apply pw_below_drewN | apply below_drew1 | refine below_set ?_ GE147.out) | exact HB.out)) hb)
                  have n3_ := Aside0.mk (hbox)
                  have n4_ := Aside0.mk ((by rw [hg]; exact (below_size (by repeat (first | (with_reducible first | exact HB.out | apply below_alloc | apply pw_below_drewN | apply below_drew1 | refine below_set ?_ GE147.out) | exact HB.out))) : w.heap.size ≤ gb158))
                  have n5_ := Aside0.mk ((by rw [hg]; exact (below_size (by repeat (first | (with_reducible first | exact HB.out | apply below_alloc | apply pw_below_drewN | apply below_drew1 | refine below_set ?_ GE147.out) | exact HB.out))) : w.heap.size ≤ gb158))
                  have n6_ := Aside0.mk ((by rw [hg]; exact Nat.ne_of_lt (blk_lt (g := gb147) (o := .cells #[.slice none 0 0, .int .i64 0, .int .i64 0, .int .i64 0, .int .i64 0, .int .i64 0] 26 (0, 0)) (by (with_reducible repeat (first | refine blk_drewN ?_ _ | refine blk_drew ?_ | refine blk_alloc ?_ _)); exact BK147.out)) : gb147 ≠ gb158))
                  have n7_ := Aside0.mk ((by rw [hg]; exact Nat.ne_of_gt (blk_lt (g := gb147) (o := .cells #[.slice none 0 0, .int .i64 0, .int .i64 0, .int .i64 0, .int .i64 0, .int .i64 0] 26 (0, 0)) (by (with_reducible repeat (first | refine blk_drewN ?_ _ | refine blk_drew ?_ | refine blk_alloc ?_ _)); exact BK147.out)) : gb158 ≠ gb147))
                  clear HO_4
                  clear BK147
                  clear HB
                  have HO_4 := n0_
                  have BK147 := n1_
                  have HB := n2_
                  have BK158 := n3_
                  have GW158 := n4_
                  have GE158 := n5_
                  have NB147_158 := n6_
                  have NB158_147 := n7_
                  clear n0_ n1_ n2_ n3_ n4_ n5_ n6_ n7_
                  clear hb hbox hg
                  refine hK.out _ _ ⟨HS0_, HS1_, HS2_, HS3_, HS4_⟩ (fun hHeld => ?_)
                  clear hK K
                  refine norm_ (a' := ?_) ?_ ?_
                  rotate_left
                  · show Act.put _ (some 6) _ = _
                    simp only [Act.put, List.setIfInBounds_toArray, List.set_cons_zero, List.set_cons_succ, i64_w, i32_w]
                    rfl
                  refine one_ (i := 17) (N := none) #[true, true, true, true, true, true, true, true, true, true, true, true, true, true, true, true, true, true] rfl rfl (one_of HT_.out (by kernel_rfl)) (by decide) (fun K hK => ?_)
                  have hs23 : w22.cell? ⟨gb158, 0, none⟩ = some (.slice none 0 0) := (blk_cell BK158.out 0).trans rfl
                  have hfs23 := blk_frozen BK158.out 0
                  have hns23_0 := NB147_158.out
                  have hms23_0 := NB158_147.out
                  have hs24 : w22.cell? ⟨gb158, 1, none⟩ = some (.int .i64 0) := (blk_cell BK158.out 1).trans rfl
                  have hfs24 := blk_frozen BK158.out 1
                  have hns24_0 := NB147_158.out
                  have hms24_0 := NB158_147.out
                  have hs25 : w22.cell? ⟨gb158, 2, none⟩ = some (.int .i64 0) := (blk_cell BK158.out 2).trans rfl
                  have hfs25 := blk_frozen BK158.out 2
                  have hns25_0 := NB147_158.out
                  have hms25_0 := NB158_147.out
                  have hs26 : w22.cell? ⟨gb158, 3, none⟩ = some (.int .i64 0) := (blk_cell BK158.out 3).trans rfl
                  have hfs26 := blk_frozen BK158.out 3
                  have hns26_0 := NB147_158.out
                  have hms26_0 := NB158_147.out
                  have hs27 : w22.cell? ⟨gb158, 4, none⟩ = some (.int .i64 0) := (blk_cell BK158.out 4).trans rfl
                  have hfs27 := blk_frozen BK158.out 4
                  have hns27_0 := NB147_158.out
                  have hms27_0 := NB158_147.out
                  have hs28 : w22.cell? ⟨gb158, 5, none⟩ = some (.int .i64 0) := (blk_cell BK158.out 5).trans rfl
                  have hfs28 := blk_frozen BK158.out 5
                  have hns28_0 := NB147_158.out
                  have hms28_0 := NB158_147.out
                  refine skip_ (w1 := ?_) (by rfl) rfl ?_ ?_
                  rotate_left
                  · go_simp
                    rfl
                  refine hK.out _ _ ⟨((cell_far (p := ⟨gb158, _, none⟩) (by first | exact Kd.own_blk (Kd.R_ne HO_4.out BK158.out (by decide)) | (rw [add_block]; exact Kd.own_blk (Kd.R_ne HO_4.out BK158.out (by decide))) | (show (Addr.add _ _).block ≠ _; rw [add_block]; exact Kd.own_blk (Kd.R_ne HO_4.out BK158.out (by decide))) | (dsimp only; exact Kd.own_blk (Kd.R_ne HO_4.out BK158.out (by decide)))) _).trans (((cell_far (p := ⟨gb158, _, none⟩) (by first | exact Kd.own_blk (Kd.R_ne HO_4.out BK158.out (by decide)) | (rw [add_block]; exact Kd.own_blk (Kd.R_ne HO_4.out BK158.out (by decide))) | (show (Addr.add _ _).block ≠ _; rw [add_block]; exact Kd.own_blk (Kd.R_ne HO_4.out BK158.out (by decide))) | (dsimp only; exact Kd.own_blk (Kd.R_ne HO_4.out BK158.out (by decide)))) _).trans (((cell_far (p := ⟨gb158, _, none⟩) (by first | exact Kd.own_blk (Kd.R_ne HO_4.out BK158.out (by decide)) | (rw [add_block]; exact Kd.own_blk (Kd.R_ne HO_4.out BK158.out (by decide))) | (show (Addr.add _ _).block ≠ _; rw [add_block]; exact Kd.own_blk (Kd.R_ne HO_4.out BK158.out (by decide))) | (dsimp only; exact Kd.own_blk (Kd.R_ne HO_4.out BK158.out (by decide)))) _).trans (((cell_far (p := ⟨gb158, _, none⟩) (by first | exact Kd.own_blk (Kd.R_ne HO_4.out BK158.out (by decide)) | (rw [add_block]; exact Kd.own_blk (Kd.R_ne HO_4.out BK158.out (by decide))) | (show (Addr.add _ _).block ≠ _; rw [add_block]; exact Kd.own_blk (Kd.R_ne HO_4.out BK158.out (by decide))) | (dsimp only; exact Kd.own_blk (Kd.R_ne HO_4.out BK158.out (by decide)))) _).trans (((cell_far (p := ⟨gb158, _, none⟩) (by first | exact Kd.own_blk (Kd.R_ne HO_4.out BK158.out (by decide)) | (rw [add_block]; exact Kd.own_blk (Kd.R_ne HO_4.out BK158.out (by decide))) | (show (Addr.add _ _).block ≠ _; rw [add_block]; exact Kd.own_blk (Kd.R_ne HO_4.out BK158.out (by decide))) | (dsimp only; exact Kd.own_blk (Kd.R_ne HO_4.out BK158.out (by decide)))) _).trans (((cell_far (p := ⟨gb158, _, none⟩) (by first | exact Kd.own_blk (Kd.R_ne HO_4.out BK158.out (by decide)) | (rw [add_block]; exact Kd.own_blk (Kd.R_ne HO_4.out BK158.out (by decide))) | (show (Addr.add _ _).block ≠ _; rw [add_block]; exact Kd.own_blk (Kd.R_ne HO_4.out BK158.out (by decide))) | (dsimp only; exact Kd.own_blk (Kd.R_ne HO_4.out BK158.out (by decide)))) _).trans (hHeld.1)))))))))))), ((cell_far (p := ⟨gb158, _, none⟩) (by first | exact Kd.own_blk (Kd.R_ne HO_4.out BK158.out (by decide)) | (rw [add_block]; exact Kd.own_blk (Kd.R_ne HO_4.out BK158.out (by decide))) | (show (Addr.add _ _).block ≠ _; rw [add_block]; exact Kd.own_blk (Kd.R_ne HO_4.out BK158.out (by decide))) | (dsimp only; exact Kd.own_blk (Kd.R_ne HO_4.out BK158.out (by decide)))) _).trans (((cell_far (p := ⟨gb158, _, none⟩) (by first | exact Kd.own_blk (Kd.R_ne HO_4.out BK158.out (by decide)) | (rw [add_block]; exact Kd.own_blk (Kd.R_ne HO_4.out BK158.out (by decide))) | (show (Addr.add _ _).block ≠ _; rw [add_block]; exact Kd.own_blk (Kd.R_ne HO_4.out BK158.out (by decide))) | (dsimp only; exact Kd.own_blk (Kd.R_ne HO_4.out BK158.out (by decide)))) _).trans (((cell_far (p := ⟨gb158, _, none⟩) (by first | exact Kd.own_blk (Kd.R_ne HO_4.out BK158.out (by decide)) | (rw [add_block]; exact Kd.own_blk (Kd.R_ne HO_4.out BK158.out (by decide))) | (show (Addr.add _ _).block ≠ _; rw [add_block]; exact Kd.own_blk (Kd.R_ne HO_4.out BK158.out (by decide))) | (dsimp only; exact Kd.own_blk (Kd.R_ne HO_4.out BK158.out (by decide)))) _).trans (((cell_far (p := ⟨gb158, _, none⟩) (by first | exact Kd.own_blk (Kd.R_ne HO_4.out BK158.out (by decide)) | (rw [add_block]; exact Kd.own_blk (Kd.R_ne HO_4.out BK158.out (by decide))) | (show (Addr.add _ _).block ≠ _; rw [add_block]; exact Kd.own_blk (Kd.R_ne HO_4.out BK158.out (by decide))) | (dsimp only; exact Kd.own_blk (Kd.R_ne HO_4.out BK158.out (by decide)))) _).trans (((cell_far (p := ⟨gb158, _, none⟩) (by first | exact Kd.own_blk (Kd.R_ne HO_4.out BK158.out (by decide)) | (rw [add_block]; exact Kd.own_blk (Kd.R_ne HO_4.out BK158.out (by decide))) | (show (Addr.add _ _).block ≠ _; rw [add_block]; exact Kd.own_blk (Kd.R_ne HO_4.out BK158.out (by decide))) | (dsimp only; exact Kd.own_blk (Kd.R_ne HO_4.out BK158.out (by decide)))) _).trans (((cell_far (p := ⟨gb158, _, none⟩) (by first | exact Kd.own_blk (Kd.R_ne HO_4.out BK158.out (by decide)) | (rw [add_block]; exact Kd.own_blk (Kd.R_ne HO_4.out BK158.out (by decide))) | (show (Addr.add _ _).block ≠ _; rw [add_block]; exact Kd.own_blk (Kd.R_ne HO_4.out BK158.out (by decide))) | (dsimp only; exact Kd.own_blk (Kd.R_ne HO_4.out BK158.out (by decide)))) _).trans (hHeld.2.1)))))))))))), ((cell_far (p := ⟨gb158, _, none⟩) (by first | exact Kd.own_blk (Kd.R_ne HO_4.out BK158.out (by decide)) | (rw [add_block]; exact Kd.own_blk (Kd.R_ne HO_4.out BK158.out (by decide))) | (show (Addr.add _ _).block ≠ _; rw [add_block]; exact Kd.own_blk (Kd.R_ne HO_4.out BK158.out (by decide))) | (dsimp only; exact Kd.own_blk (Kd.R_ne HO_4.out BK158.out (by decide)))) _).trans (((cell_far (p := ⟨gb158, _, none⟩) (by first | exact Kd.own_blk (Kd.R_ne HO_4.out BK158.out (by decide)) | (rw [add_block]; exact Kd.own_blk (Kd.R_ne HO_4.out BK158.out (by decide))) | (show (Addr.add _ _).block ≠ _; rw [add_block]; exact Kd.own_blk (Kd.R_ne HO_4.out BK158.out (by decide))) | (dsimp only; exact Kd.own_blk (Kd.R_ne HO_4.out BK158.out (by decide)))) _).trans (((cell_far (p := ⟨gb158, _, none⟩) (by first | exact Kd.own_blk (Kd.R_ne HO_4.out BK158.out (by decide)) | (rw [add_block]; exact Kd.own_blk (Kd.R_ne HO_4.out BK158.out (by decide))) | (show (Addr.add _ _).block ≠ _; rw [add_block]; exact Kd.own_blk (Kd.R_ne HO_4.out BK158.out (by decide))) | (dsimp only; exact Kd.own_blk (Kd.R_ne HO_4.out BK158.out (by decide)))) _).trans (((cell_far (p := ⟨gb158, _, none⟩) (by first | exact Kd.own_blk (Kd.R_ne HO_4.out BK158.out (by decide)) | (rw [add_block]; exact Kd.own_blk (Kd.R_ne HO_4.out BK158.out (by decide))) | (show (Addr.add _ _).block ≠ _; rw [add_block]; exact Kd.own_blk (Kd.R_ne HO_4.out BK158.out (by decide))) | (dsimp only; exact Kd.own_blk (Kd.R_ne HO_4.out BK158.out (by decide)))) _).trans (((cell_far (p := ⟨gb158, _, none⟩) (by first | exact Kd.own_blk (Kd.R_ne HO_4.out BK158.out (by decide)) | (rw [add_block]; exact Kd.own_blk (Kd.R_ne HO_4.out BK158.out (by decide))) | (show (Addr.add _ _).block ≠ _; rw [add_block]; exact Kd.own_blk (Kd.R_ne HO_4.out BK158.out (by decide))) | (dsimp only; exact Kd.own_blk (Kd.R_ne HO_4.out BK158.out (by decide)))) _).trans (((cell_far (p := ⟨gb158, _, none⟩) (by first | exact Kd.own_blk (Kd.R_ne HO_4.out BK158.out (by decide)) | (rw [add_block]; exact Kd.own_blk (Kd.R_ne HO_4.out BK158.out (by decide))) | (show (Addr.add _ _).block ≠ _; rw [add_block]; exact Kd.own_blk (Kd.R_ne HO_4.out BK158.out (by decide))) | (dsimp only; exact Kd.own_blk (Kd.R_ne HO_4.out BK158.out (by decide)))) _).trans (hHeld.2.2.1)))))))))))), ((cell_far (p := ⟨gb158, _, none⟩) (by first | exact Kd.own_blk (Kd.R_ne HO_4.out BK158.out (by decide)) | (rw [add_block]; exact Kd.own_blk (Kd.R_ne HO_4.out BK158.out (by decide))) | (show (Addr.add _ _).block ≠ _; rw [add_block]; exact Kd.own_blk (Kd.R_ne HO_4.out BK158.out (by decide))) | (dsimp only; exact Kd.own_blk (Kd.R_ne HO_4.out BK158.out (by decide)))) _).trans (((cell_far (p := ⟨gb158, _, none⟩) (by first | exact Kd.own_blk (Kd.R_ne HO_4.out BK158.out (by decide)) | (rw [add_block]; exact Kd.own_blk (Kd.R_ne HO_4.out BK158.out (by decide))) | (show (Addr.add _ _).block ≠ _; rw [add_block]; exact Kd.own_blk (Kd.R_ne HO_4.out BK158.out (by decide))) | (dsimp only; exact Kd.own_blk (Kd.R_ne HO_4.out BK158.out (by decide)))) _).trans (((cell_far (p := ⟨gb158, _, none⟩) (by first | exact Kd.own_blk (Kd.R_ne HO_4.out BK158.out (by decide)) | (rw [add_block]; exact Kd.own_blk (Kd.R_ne HO_4.out BK158.out (by decide))) | (show (Addr.add _ _).block ≠ _; rw [add_block]; exact Kd.own_blk (Kd.R_ne HO_4.out BK158.out (by decide))) | (dsimp only; exact Kd.own_blk (Kd.R_ne HO_4.out BK158.out (by decide)))) _).trans (((cell_far (p := ⟨gb158, _, none⟩) (by first | exact Kd.own_blk (Kd.R_ne HO_4.out BK158.out (by decide)) | (rw [add_block]; exact Kd.own_blk (Kd.R_ne HO_4.out BK158.out (by decide))) | (show (Addr.add _ _).block ≠ _; rw [add_block]; exact Kd.own_blk (Kd.R_ne HO_4.out BK158.out (by decide))) | (dsimp only; exact Kd.own_blk (Kd.R_ne HO_4.out BK158.out (by decide)))) _).trans (((cell_far (p := ⟨gb158, _, none⟩) (by first | exact Kd.own_blk (Kd.R_ne HO_4.out BK158.out (by decide)) | (rw [add_block]; exact Kd.own_blk (Kd.R_ne HO_4.out BK158.out (by decide))) | (show (Addr.add _ _).block ≠ _; rw [add_block]; exact Kd.own_blk (Kd.R_ne HO_4.out BK158.out (by decide))) | (dsimp only; exact Kd.own_blk (Kd.R_ne HO_4.out BK158.out (by decide)))) _).trans (((cell_far (p := ⟨gb158, _, none⟩) (by first | exact Kd.own_blk (Kd.R_ne HO_4.out BK158.out (by decide)) | (rw [add_block]; exact Kd.own_blk (Kd.R_ne HO_4.out BK158.out (by decide))) | (show (Addr.add _ _).block ≠ _; rw [add_block]; exact Kd.own_blk (Kd.R_ne HO_4.out BK158.out (by decide))) | (dsimp only; exact Kd.own_blk (Kd.R_ne HO_4.out BK158.out (by decide)))) _).trans (hHeld.2.2.2.1)))))))))))), ((cell_far (p := ⟨gb158, _, none⟩) (by first | exact Kd.own_blk (Kd.R_ne HO_4.out BK158.out (by decide)) | (rw [add_block]; exact Kd.own_blk (Kd.R_ne HO_4.out BK158.out (by decide))) | (show (Addr.add _ _).block ≠ _; rw [add_block]; exact Kd.own_blk (Kd.R_ne HO_4.out BK158.out (by decide))) | (dsimp only; exact Kd.own_blk (Kd.R_ne HO_4.out BK158.out (by decide)))) _).trans (((cell_far (p := ⟨gb158, _, none⟩) (by first | exact Kd.own_blk (Kd.R_ne HO_4.out BK158.out (by decide)) | (rw [add_block]; exact Kd.own_blk (Kd.R_ne HO_4.out BK158.out (by decide))) | (show (Addr.add _ _).block ≠ _; rw [add_block]; exact Kd.own_blk (Kd.R_ne HO_4.out BK158.out (by decide))) | (dsimp only; exact Kd.own_blk (Kd.R_ne HO_4.out BK158.out (by decide)))) _).trans (((cell_far (p := ⟨gb158, _, none⟩) (by first | exact Kd.own_blk (Kd.R_ne HO_4.out BK158.out (by decide)) | (rw [add_block]; exact Kd.own_blk (Kd.R_ne HO_4.out BK158.out (by decide))) | (show (Addr.add _ _).block ≠ _; rw [add_block]; exact Kd.own_blk (Kd.R_ne HO_4.out BK158.out (by decide))) | (dsimp only; exact Kd.own_blk (Kd.R_ne HO_4.out BK158.out (by decide)))) _).trans (((cell_far (p := ⟨gb158, _, none⟩) (by first | exact Kd.own_blk (Kd.R_ne HO_4.out BK158.out (by decide)) | (rw [add_block]; exact Kd.own_blk (Kd.R_ne HO_4.out BK158.out (by decide))) | (show (Addr.add _ _).block ≠ _; rw [add_block]; exact Kd.own_blk (Kd.R_ne HO_4.out BK158.out (by decide))) | (dsimp only; exact Kd.own_blk (Kd.R_ne HO_4.out BK158.out (by decide)))) _).trans (((cell_far (p := ⟨gb158, _, none⟩) (by first | exact Kd.own_blk (Kd.R_ne HO_4.out BK158.out (by decide)) | (rw [add_block]; exact Kd.own_blk (Kd.R_ne HO_4.out BK158.out (by decide))) | (show (Addr.add _ _).block ≠ _; rw [add_block]; exact Kd.own_blk (Kd.R_ne HO_4.out BK158.out (by decide))) | (dsimp only; exact Kd.own_blk (Kd.R_ne HO_4.out BK158.out (by decide)))) _).trans (((cell_far (p := ⟨gb158, _, none⟩) (by first | exact Kd.own_blk (Kd.R_ne HO_4.out BK158.out (by decide)) | (rw [add_block]; exact Kd.own_blk (Kd.R_ne HO_4.out BK158.out (by decide))) | (show (Addr.add _ _).block ≠ _; rw [add_block]; exact Kd.own_blk (Kd.R_ne HO_4.out BK158.out (by decide))) | (dsimp only; exact Kd.own_blk (Kd.R_ne HO_4.out BK158.out (by decide)))) _).trans (hHeld.2.2.2.2))))))))))))⟩ (fun hHeld => ?_)
                  clear hK K
                  refine done_ (done_of HT_.out (by kernel_rfl)) ?_
                  try go_wp2
                  go_loopg [7] kj2 (fun kq v7 w' => ∃ (x7_2 : Int) (x159000_2 : List (S23)) (u159000 : Value), v7 = .int .i64 x7_2 ∧ Aside0 (pipe_Decode.l0 kq t148 x7_2 x159000_2 (rd t148 0) (rd t148 1) (rd t148 2) (rd t148 3) (rd t148 4) = some (r1, r2, r3, r4, r5, r6, r7)) ∧ Aside0 (kq ≤ kj2) ∧ Aside0 (Kd.R (Kd.int .i64) 3 w' w.heap.size (fun _ => True) (.slice (some ad153) t148.length co21) t148) ∧ Aside0 (Kd.R k23 23 w' w.heap.size (fun _ => True) u159000 x159000_2) ∧ Aside0 (w'.heap[gb147]? = some (.cells #[(.slice none 0 0), .int .i64 0, .int .i64 0, .int .i64 0, .int .i64 0, .int .i64 0] 26 (0, 0))) ∧ Aside0 (w'.heap[gb158]? = some (.cells #[u159000, .int .i64 (rd t148 0), .int .i64 (rd t148 1), .int .i64 (rd t148 2), .int .i64 (rd t148 3), .int .i64 (rd t148 4)] 26 (0, 0))) ∧ Aside0 (Below w.heap.size w w'))
                  case atStart => exact ⟨(6), (([] : List (S23))), (.slice none 0 0), (by first | rfl | (simp; done) | (simp [*]; done)), H', ⟨Nat.le_refl _⟩, ⟨by (with_reducible repeat (first | apply Kd.R_alloc | apply Kd.R_drewN | apply Kd.R_drew)); exact Kd.R_mono (Kd.R_far (p := ⟨gb158, 5, none⟩) (Kd.R_far (p := ⟨gb158, 4, none⟩) (Kd.R_far (p := ⟨gb158, 3, none⟩) (Kd.R_far (p := ⟨gb158, 2, none⟩) (Kd.R_far (p := ⟨gb158, 1, none⟩) (Kd.R_far (p := ⟨gb158, 0, none⟩) (Kd.R_types HO_4.out BK158.out (by decide)) (fun _ hk => hk.2) (.slice none 0 0)) (fun _ hk => hk.2) (.int .i64 (rd t148 0))) (fun _ hk => hk.2) (.int .i64 (rd t148 1))) (fun _ hk => hk.2) (.int .i64 (rd t148 2))) (fun _ hk => hk.2) (.int .i64 (rd t148 3))) (fun _ hk => hk.2) (.int .i64 (rd t148 4))) (fun _ hk => trivial)⟩, ⟨by first | exact Kd.R_nil _ _ _ _ _ | exact Kd.N_nil _ _ _ _ _ | exact Kd.V_nil _ _ _ _ _ | exact Kd.Q_nil _ _ _ _ _ | exact Kd.S_nil _ _ _ _ _⟩, ⟨by (with_reducible repeat (first | refine blk_drewN ?_ _ | refine blk_drew ?_ | refine blk_alloc ?_ _)); refine blk_far ?_ NB147_158.out _; (with_reducible repeat (first | refine blk_drewN ?_ _ | refine blk_drew ?_ | refine blk_alloc ?_ _)); refine blk_far ?_ NB147_158.out _; (with_reducible repeat (first | refine blk_drewN ?_ _ | refine blk_drew ?_ | refine blk_alloc ?_ _)); refine blk_far ?_ NB147_158.out _; (with_reducible repeat (first | refine blk_drewN ?_ _ | refine blk_drew ?_ | refine blk_alloc ?_ _)); refine blk_far ?_ NB147_158.out _; (with_reducible repeat (first | refine blk_drewN ?_ _ | refine blk_drew ?_ | refine blk_alloc ?_ _)); refine blk_far ?_ NB147_158.out _; (with_reducible repeat (first | refine blk_drewN ?_ _ | refine blk_drew ?_ | refine blk_alloc ?_ _)); refine blk_far ?_ NB147_158.out _; (with_reducible repeat (first | refine blk_drewN ?_ _ | refine blk_drew ?_ | refine blk_alloc ?_ _)); exact BK147.out⟩, ⟨by (with_reducible repeat (first | refine blk_drewN ?_ _ | refine blk_drew ?_ | refine blk_alloc ?_ _)); refine blk_put (cs := #[.slice none 0 0, .int .i64 (rd t148 0), .int .i64 (rd t148 1), .int .i64 (rd t148 2), .int .i64 (rd t148 3), .int .i64 0]) ?_ 5 _ rfl; (with_reducible repeat (first | refine blk_drewN ?_ _ | refine blk_drew ?_ | refine blk_alloc ?_ _)); refine blk_put (cs := #[.slice none 0 0, .int .i64 (rd t148 0), .int .i64 (rd t148 1), .int .i64 (rd t148 2), .int .i64 0, .int .i64 0]) ?_ 4 _ rfl; (with_reducible repeat (first | refine blk_drewN ?_ _ | refine blk_drew ?_ | refine blk_alloc ?_ _)); refine blk_put (cs := #[.slice none 0 0, .int .i64 (rd t148 0), .int .i64 (rd t148 1), .int .i64 0, .int .i64 0, .int .i64 0]) ?_ 3 _ rfl; (with_reducible repeat (first | refine blk_drewN ?_ _ | refine blk_drew ?_ | refine blk_alloc ?_ _)); refine blk_put (cs := #[.slice none 0 0, .int .i64 (rd t148 0), .int .i64 0, .int .i64 0, .int .i64 0, .int .i64 0]) ?_ 2 _ rfl; (with_reducible repeat (first | refine blk_drewN ?_ _ | refine blk_drew ?_ | refine blk_alloc ?_ _)); refine blk_put (cs := #[.slice none 0 0, .int .i64 0, .int .i64 0, .int .i64 0, .int .i64 0, .int .i64 0]) ?_ 1 _ rfl; (with_reducible repeat (first | refine blk_drewN ?_ _ | refine blk_drew ?_ | refine blk_alloc ?_ _)); refine blk_put (cs := #[.slice none 0 0, .int .i64 0, .int .i64 0, .int .i64 0, .int .i64 0, .int .i64 0]) ?_ 0 _ rfl; (with_reducible repeat (first | refine blk_drewN ?_ _ | refine blk_drew ?_ | refine blk_alloc ?_ _)); exact BK158.out⟩, ⟨by repeat (first | (with_reducible first | exact HB.out | apply below_alloc | apply pw_below_drewN | apply below_drew1 | refine below_set ?_ GE147.out | refine below_set ?_ GE158.out) | exact HB.out)⟩⟩
                  case round =>
                    clear H'
                    try clear c1
                    try clear p1
                    try clear q1
                    try clear hx1
                    try clear qi1
                    try clear c2
                    try clear p2
                    try clear c6
                    try clear p6
                    try clear c7
                    try clear c7b0
                    try clear c7b1
                    try clear c9
                    try clear c9b0
                    try clear c9b1
                    try clear c10
                    try clear c10b0
                    try clear c10b1
                    try clear c13
                    try clear c15
                    try clear c15b0
                    try clear c15b1
                    try clear p15
                    try clear q15
                    try clear hx15
                    try clear qi15
                    try clear c16
                    try clear c16b0
                    try clear c16b1
                    try clear c17
                    try clear c17b0
                    try clear c17b1
                    try clear c18
                    try clear c18b0
                    try clear c18b1
                    try clear c19
                    try clear c19b0
                    try clear c19b1
                    try clear c23
                    try clear hcz14_0
                    try clear hcz14_1
                    try clear hcz14_2
                    try clear hcz14_3
                    try clear hcz14_4
                    try clear hcz14_5
                    try clear hfz14_0
                    try clear hfz14_1
                    try clear hfz14_2
                    try clear hfz14_3
                    try clear hfz14_4
                    try clear hfz14_5
                    try clear hx152_0
                    try clear hx153_0
                    try clear hx154_0
                    try clear hx155_0
                    try clear hx156_0
                    try clear hx157_0
                    try clear p1
                    try clear p152
                    try clear p153
                    try clear p154
                    try clear p155
                    try clear p156
                    try clear p157
                    try clear p2
                    try clear p6
                    try clear q1
                    try clear q152
                    try clear q153
                    try clear q154
                    try clear q155
                    try clear q156
                    try clear q157
                    obtain ⟨x7_2, x159000_2, u159000, rfl, HA, HK2, HO_4, HO_159000, BK147, BK158, HB⟩ := hrel
                    cases gk with
                    | zero => exact absurd HA.out (by simp [pipe_Decode.l0])
                    | succ k2 =>
                      have H := HA.out
                      clear HA
                      simp only [pipe_Decode.l0] at H
                      by_cases c29 : x7_2 < (t148.length : Int)
                      · rw [if_pos c29] at H
                        have c29b0 : decide (x7_2 < (t148.length : Int)) = true := decide_eq_true c29
                        clear c29
                        by_cases c30 : 0 ≤ x7_2
                        · rw [if_pos c30] at H
                          have c30b0 : decide (0 ≤ x7_2) = true := decide_eq_true c30
                          clear c30
                          obtain ⟨ji31, hji31⟩ : ∃ j_ : Int, (wrap64 (x7_2 + 1)) = j_ := ⟨_, rfl⟩
                          replace H : (if 0 ≤ (ji31) then (if (ji31) < (t148.length : Int) then (if x159000_2.length < 8796093022208 then (pipe_Decode.l0 k2 t148 (wrap64 (x7_2 + 2)) (x159000_2 ++ [(⟨rd t148 x7_2, rd t148 (ji31)⟩ : S23)]) (rd t148 0) (rd t148 1) (rd t148 2) (rd t148 3) (rd t148 4)) else (none)) else (none)) else (none)) = some (r1, r2, r3, r4, r5, r6, r7) := by first | (rw [hji31] at H; exact H) | (simp only [hji31] at H ⊢; exact H)
                          have hji31w : (IntKind.i64.wrap (x7_2 + 1)) = ji31 := (i64_w _).trans hji31
                          by_cases c32 : 0 ≤ (ji31)
                          · rw [if_pos c32] at H
                            have c32b0 : decide (0 ≤ (ji31)) = true := decide_eq_true c32
                            clear c32
                            by_cases c33 : (ji31) < (t148.length : Int)
                            · rw [if_pos c33] at H
                              have c33b0 : decide ((ji31) < (t148.length : Int)) = true := decide_eq_true c33
                              clear c33
                              by_cases c34 : x159000_2.length < 8796093022208
                              · rw [if_pos c34] at H
                                have LMc34 := Aside0.mk c34
                                clear c34
                                obtain ⟨y161, hy161⟩ : ∃ y_ : List (S23), y_ = (x159000_2 ++ [(⟨rd t148 x7_2, rd t148 (ji31)⟩ : S23)]) := ⟨_, rfl⟩
                                replace H : (pipe_Decode.l0 k2 t148 (wrap64 (x7_2 + 2)) y161 (rd t148 0) (rd t148 1) (rd t148 2) (rd t148 3) (rd t148 4)) = some (r1, r2, r3, r4, r5, r6, r7) := by first | (rw [hy161]; with_reducible exact H) | (have H2_ := (Option.bind_some _ _).symm.trans H; rw [hy161]; with_reducible exact H2_) | (have H2_ := (Option.bind_some _ _).symm.trans H; with_reducible exact H2_) | with_reducible exact H | (rw [hy161]; exact H) | exact H
                                have Ny161 := Aside0.mk hy161
                                clear hy161
                                have H' := Aside0.mk H
                                clear H
                                try go_wp2
                                have n0_ := Aside0.mk (Kd.R_drew HO_4.out)
                                have n1_ := Aside0.mk (Kd.R_drew HO_159000.out)
                                have n2_ := Aside0.mk (blk_drew BK147.out)
                                have n3_ := Aside0.mk (blk_drew BK158.out)
                                have n4_ := Aside0.mk (below_drew1 HB.out)
                                clear HO_4
                                clear HO_159000
                                clear BK147
                                clear BK158
                                clear HB
                                have HO_4 := n0_
                                have HO_159000 := n1_
                                have BK147 := n2_
                                have BK158 := n3_
                                have HB := n4_
                                clear n0_ n1_ n2_ n3_ n4_
                                have p159 : 0 ≤ (x7_2 : Int) := of_decide_eq_true (by first | (with_reducible assumption) | assumption)
                                have q159 : x7_2 < (t148.length : Int) := of_decide_eq_true (by first | (with_reducible assumption) | assumption)
                                obtain ⟨ad159, e159, hx159_0⟩ := Kd.at_int (Kd.R_reads' HO_4.out).2.2 x7_2 p159 q159
                                obtain rfl : ad153 = ad159 := (by injection e159)
                                replace p159 := eq_true p159
                                replace q159 := eq_true q159
                                have p160 : 0 ≤ ((ji31) : Int) := of_decide_eq_true (by first | (with_reducible assumption) | assumption)
                                have q160 : (ji31) < (t148.length : Int) := of_decide_eq_true (by first | (with_reducible assumption) | assumption)
                                obtain ⟨ad160, e160, hx160_0⟩ := Kd.at_int (Kd.R_reads' HO_4.out).2.2 (ji31) p160 q160
                                obtain rfl : ad153 = ad160 := (by injection e160)
                                replace p160 := eq_true p160
                                replace q160 := eq_true q160
                                refine start_ (n := 16) (S := fun w' => w'.cell? ⟨gb158, 0, none⟩ = some (u159000) ∧ w'.cell? ⟨gb158, 1, none⟩ = some (.int .i64 (rd t148 0)) ∧ w'.cell? ⟨gb158, 2, none⟩ = some (.int .i64 (rd t148 1)) ∧ w'.cell? ⟨gb158, 3, none⟩ = some (.int .i64 (rd t148 2)) ∧ w'.cell? ⟨gb158, 4, none⟩ = some (.int .i64 (rd t148 3)) ∧ w'.cell? ⟨gb158, 5, none⟩ = some (.int .i64 (rd t148 4)) ∧ w'.cell? (ad153.add (x7_2).toNat) = some (.int .i64 (rd t148 x7_2)) ∧ w'.cell? (ad153.add ((ji31)).toNat) = some (.int .i64 (rd t148 (ji31)))) (ds := [13, 15]) #[false, false, false, false, false, false, false, false, false, false, false, false, false, false, false, false] (by kernel_rfl) rfl rfl ⟨(blk_cell BK158.out 0).trans rfl, (blk_cell BK158.out 1).trans rfl, (blk_cell BK158.out 2).trans rfl, (blk_cell BK158.out 3).trans rfl, (blk_cell BK158.out 4).trans rfl, (blk_cell BK158.out 5).trans rfl, hx159_0, hx160_0⟩ (fun hHeld => ?_); refine with_tabW pipe_Decode.tab8 pipe_Decode.bits8 (fun HT_ HW_ => ?_)
                                generalize wr.drew = w35 at HO_4 HO_159000 BK147 BK158 HB hx159_0 hx160_0 hHeld ⊢
                                refine pure_ (i := 0) (N := some 59) (v := ?_) (a' := ?_) #[true, false, false, false, false, false, false, false, false, false, false, false, false, false, false, false] rfl rfl (any_of HT_.out (by kernel_rfl)) (fun _ _ _ h => h) (Or.inl ⟨by rfl, ?_⟩) ?_ ?_
                                rotate_left
                                · intro w'
                                  go_simp
                                  with_reducible rfl
                                rotate_left
                                · simp only [Act.put, List.setIfInBounds_toArray, List.set_cons_zero, List.set_cons_succ, i64_w, i32_w]
                                  rfl
                                refine pure_ (i := 2) (N := some 61) (v := ?_) (a' := ?_) #[true, false, true, false, false, false, false, false, false, false, false, false, false, false, false, false] rfl rfl (any_of HT_.out (by kernel_rfl)) (fun _ _ _ h => h) (Or.inl ⟨by rfl, ?_⟩) ?_ ?_
                                rotate_left
                                · intro w'
                                  go_simp
                                  with_reducible rfl
                                rotate_left
                                · simp only [Act.put, List.setIfInBounds_toArray, List.set_cons_zero, List.set_cons_succ, i64_w, i32_w]
                                  rfl
                                refine pure_ (i := 3) (N := some 62) (v := ?_) (a' := ?_) #[true, false, true, true, false, false, false, false, false, false, false, false, false, false, false, false] rfl rfl (any_of HT_.out (by kernel_rfl)) (fun _ _ _ h => h) (Or.inl ⟨by rfl, ?_⟩) ?_ ?_
                                rotate_left
                                · intro w'
                                  go_simp
                                  with_reducible rfl
                                rotate_left
                                · simp only [Act.put, List.setIfInBounds_toArray, List.set_cons_zero, List.set_cons_succ, i64_w, i32_w]
                                  rfl
                                refine pure_ (i := 4) (N := some 63) (v := ?_) (a' := ?_) #[true, false, true, true, true, false, false, false, false, false, false, false, false, false, false, false] rfl rfl (any_of HT_.out (by kernel_rfl)) (fun _ _ _ h => h) (Or.inl ⟨by rfl, ?_⟩) ?_ ?_
                                rotate_left
                                · intro w'
                                  go_simp
                                  with_reducible rfl
                                rotate_left
                                · simp only [Act.put, List.setIfInBounds_toArray, List.set_cons_zero, List.set_cons_succ, i64_w, i32_w]
                                  rfl
                                refine pure_ (i := 6) (N := some 65) (v := ?_) (a' := ?_) #[true, false, true, true, true, false, true, false, false, false, false, false, false, false, false, false] rfl rfl (any_of HT_.out (by kernel_rfl)) (fun _ _ _ h => h) (Or.inl ⟨by rfl, ?_⟩) ?_ ?_
                                rotate_left
                                · intro w'
                                  go_simp
                                  with_reducible rfl
                                rotate_left
                                · simp only [Act.put, List.setIfInBounds_toArray, List.set_cons_zero, List.set_cons_succ, i64_w, i32_w]
                                  rfl
                                refine pure_ (i := 7) (N := some 66) (v := ?_) (a' := ?_) #[true, false, true, true, true, false, true, true, false, false, false, false, false, false, false, false] rfl rfl (any_of HT_.out (by kernel_rfl)) (fun _ _ _ h => h) (Or.inl ⟨by rfl, ?_⟩) ?_ ?_
                                rotate_left
                                · intro w'
                                  go_simp
                                  with_reducible rfl
                                rotate_left
                                · simp only [Act.put, List.setIfInBounds_toArray, List.set_cons_zero, List.set_cons_succ, i64_w, i32_w]
                                  rfl
                                refine pure_ (i := 8) (N := some 67) (v := ?_) (a' := ?_) #[true, false, true, true, true, false, true, true, true, false, false, false, false, false, false, false] rfl rfl (any_of HT_.out (by kernel_rfl)) (fun _ _ _ h => h) (Or.inl ⟨by rfl, ?_⟩) ?_ ?_
                                rotate_left
                                · intro w'
                                  go_simp
                                  with_reducible rfl
                                rotate_left
                                · simp only [Act.put, List.setIfInBounds_toArray, List.set_cons_zero, List.set_cons_succ, i64_w, i32_w]
                                  rfl
                                refine pure_ (i := 9) (N := some 68) (v := ?_) (a' := ?_) #[true, false, true, true, true, false, true, true, true, true, false, false, false, false, false, false] rfl rfl (any_of HT_.out (by kernel_rfl)) (fun _ _ _ h => h) (Or.inl ⟨by rfl, ?_⟩) ?_ ?_
                                rotate_left
                                · intro w'
                                  go_simp
                                  with_reducible rfl
                                rotate_left
                                · simp only [Act.put, List.setIfInBounds_toArray, List.set_cons_zero, List.set_cons_succ, i64_w, i32_w]
                                  rfl
                                refine take_ (i := 1) (N := some 60) (v := ?_) (a' := ?_) #[true, true, true, true, true, false, true, true, true, true, false, false, false, false, false, false] rfl rfl (take_ofW HT_.out HW_.out (by kernel_rfl)) (fun _ _ _ h => h) (Or.inl ⟨by rfl, ?_⟩) hHeld ?_ ?_
                                rotate_left
                                · rintro w' ⟨s0, s1, s2, s3, s4, s5, s6, s7⟩
                                  go_simp
                                  with_reducible rfl
                                rotate_left
                                · simp only [Act.put, List.setIfInBounds_toArray, List.set_cons_zero, List.set_cons_succ, i64_w, i32_w]
                                  rfl
                                refine take_ (i := 5) (N := some 64) (v := ?_) (a' := ?_) #[true, true, true, true, true, true, true, true, true, true, false, false, false, false, false, false] rfl rfl (take_ofW HT_.out HW_.out (by kernel_rfl)) (fun _ _ _ h => h) (Or.inl ⟨by rfl, ?_⟩) hHeld ?_ ?_
                                rotate_left
                                · rintro w' ⟨s0, s1, s2, s3, s4, s5, s6, s7⟩
                                  go_simp
                                  with_reducible rfl
                                rotate_left
                                · simp only [Act.put, List.setIfInBounds_toArray, List.set_cons_zero, List.set_cons_succ, i64_w, i32_w]
                                  rfl
                                refine take_ (i := 10) (N := some 69) (v := ?_) (a' := ?_) #[true, true, true, true, true, true, true, true, true, true, true, false, false, false, false, false] rfl rfl (take_ofW HT_.out HW_.out (by kernel_rfl)) (fun _ _ _ h => h) (Or.inl ⟨by rfl, ?_⟩) hHeld ?_ ?_
                                rotate_left
                                · rintro w' ⟨s0, s1, s2, s3, s4, s5, s6, s7⟩
                                  go_simp
                                  with_reducible rfl
                                rotate_left
                                · simp only [Act.put, List.setIfInBounds_toArray, List.set_cons_zero, List.set_cons_succ, i64_w, i32_w]
                                  rfl
                                refine pure_ (i := 11) (N := some 70) (v := ?_) (a' := ?_) #[true, true, true, true, true, true, true, true, true, true, true, true, false, false, false, false] rfl rfl (any_of HT_.out (by kernel_rfl)) (fun _ _ _ h => h) (Or.inl ⟨by rfl, ?_⟩) ?_ ?_
                                rotate_left
                                · intro w'
                                  go_simp
                                  with_reducible rfl
                                rotate_left
                                · simp only [Act.put, List.setIfInBounds_toArray, List.set_cons_zero, List.set_cons_succ, i64_w, i32_w]
                                  rfl
                                refine one_ (i := 12) (N := some 71) #[true, true, true, true, true, true, true, true, true, true, true, true, true, false, false, false] rfl rfl (one_of HT_.out (by kernel_rfl)) (by decide) (fun K hK => ?_)
                                refine value_ (w1 := ?_) (v := ?_) (by rfl) rfl ?_ ?_
                                rotate_left 2
                                · go_simp
                                  constructor
                                  · rfl
                                  · rfl
                                refine hK.out _ _ ⟨(blk_cell (blk_alloc BK158.out _) 0).trans rfl, (blk_cell (blk_alloc BK158.out _) 1).trans rfl, (blk_cell (blk_alloc BK158.out _) 2).trans rfl, (blk_cell (blk_alloc BK158.out _) 3).trans rfl, (blk_cell (blk_alloc BK158.out _) 4).trans rfl, (blk_cell (blk_alloc BK158.out _) 5).trans rfl, (World.cell?_alloc_lt _ _ _ (World.block_lt_of_cell? _ _ (hHeld.2.2.2.2.2.2.1))).trans (hHeld.2.2.2.2.2.2.1), (World.cell?_alloc_lt _ _ _ (World.block_lt_of_cell? _ _ (hHeld.2.2.2.2.2.2.2))).trans (hHeld.2.2.2.2.2.2.2)⟩ (fun hHeld => ?_)
                                clear hK K
                                refine norm_ (a' := ?_) ?_ ?_
                                rotate_left
                                · show Act.put _ (some 71) _ = _
                                  simp only [Act.put, List.setIfInBounds_toArray, List.set_cons_zero, List.set_cons_succ, i64_w, i32_w]
                                  rfl
                                refine last_ (i := 13) (N := some 72) #[true, true, true, true, true, true, true, true, true, true, true, true, true, true, false, false] rfl rfl (one_of HT_.out (by kernel_rfl)) (by decide) (fun K hK => ?_)
                                refine Kd.R_append_step k23 (w0 := w) w.heap.size (by rfl) (.tmp 60) (.tmp 71) 24 23 (.agg #[(.int .i64 0), (.int .i64 0)]) 16 rfl Try.underlying24 info23 rfl (by decide) (by omega) u159000 x159000_2 (⟨rd t148 x7_2, rd t148 (ji31)⟩ : S23) [.int .i64 (rd t148 x7_2), .int .i64 (rd t148 (ji31))] (fun _ => True) (fun _ => False) rfl rfl ?aP (fun _ hk => hk.elim) ?aF ?aO ?aB ?aS ?aL ?_
                                (case aP => exact k23_mkM _ _ _ (⟨rd t148 x7_2, rd t148 (ji31)⟩ : S23))
                                (case aB => exact (by repeat (first | (with_reducible first | exact HB.out | apply below_alloc | apply pw_below_drewN | apply below_drew1 | refine below_set ?_ GE147.out | refine below_set ?_ GE158.out) | exact HB.out)))
                                (case aF => exact (fun _ _ => trivial))
                                (case aO => exact (by (with_reducible repeat (first | apply Kd.R_alloc | apply Kd.R_drewN | apply Kd.R_drew)); exact HO_159000.out))
                                (case aS => exact (below_size (by repeat (first | (with_reducible first | exact HB.out | apply below_alloc | apply pw_below_drewN | apply below_drew1 | refine below_set ?_ GE147.out | refine below_set ?_ GE158.out) | exact HB.out))))
                                (case aL => have := LMc34.out; omega)
                                intro v162 w36 ho hb hg hat
                                rw [← Ny161.out] at ho
                                have n0_ := Aside0.mk (Kd.R_over' (by (with_reducible repeat (first | apply Kd.R_alloc | apply Kd.R_drewN | apply Kd.R_drew)); exact HO_4.out) (Kd.R_typed (by (with_reducible repeat (first | apply Kd.R_alloc | apply Kd.R_drewN | apply Kd.R_drew)); exact HO_159000.out)) (by decide) hg)
                                have n1_ := Aside0.mk (blk_grown (g := gb147) (o := .cells #[.slice none 0 0, .int .i64 0, .int .i64 0, .int .i64 0, .int .i64 0, .int .i64 0] 26 (0, 0)) (by (with_reducible repeat (first | refine blk_drewN ?_ _ | refine blk_drew ?_ | refine blk_alloc ?_ _)); exact BK147.out) hg (Kd.R_ne HO_159000.out BK147.out (by decide)))
                                have n2_ := Aside0.mk (blk_grown (g := gb158) (o := .cells #[u159000, .int .i64 (rd t148 0), .int .i64 (rd t148 1), .int .i64 (rd t148 2), .int .i64 (rd t148 3), .int .i64 (rd t148 4)] 26 (0, 0)) (by (with_reducible repeat (first | refine blk_drewN ?_ _ | refine blk_drew ?_ | refine blk_alloc ?_ _)); exact BK158.out) hg (Kd.R_ne HO_159000.out BK158.out (by decide)))
                                have n3_ := Aside0.mk (hb)
                                have n4_ := Aside0.mk (ho)
                                clear HO_4
                                clear BK147
                                clear BK158
                                clear HB
                                clear HO_159000
                                have HO_4 := n0_
                                have BK147 := n1_
                                have BK158 := n2_
                                have HB := n3_
                                have HO163 := n4_
                                clear n0_ n1_ n2_ n3_ n4_
                                clear ho hb hg hat
                                obtain ⟨Ao37, co37, eo37⟩ := Kd.R_slice HO163.out
                                (first | subst eo37 | (injection eo37 with f1_ f2_ f3_; have f4_ := f1_.symm; have f5_ := f3_.symm; clear f1_ f2_ f3_; subst f4_; subst f5_))
                                refine hK.out _ _ ?_
                                clear hK K
                                refine norm_ (a' := ?_) ?_ ?_
                                rotate_left
                                · show Act.put _ (some 72) _ = _
                                  simp only [Act.put, List.setIfInBounds_toArray, List.set_cons_zero, List.set_cons_succ, i64_w, i32_w]
                                  rfl
                                refine pure_ (i := 14) (N := some 73) (v := ?_) (a' := ?_) #[true, true, true, true, true, true, true, true, true, true, true, true, true, true, true, false] rfl rfl (any_of HT_.out (by kernel_rfl)) (fun _ _ _ h => h) (Or.inl ⟨by rfl, ?_⟩) ?_ ?_
                                rotate_left
                                · intro w'
                                  go_simp
                                  with_reducible rfl
                                rotate_left
                                · simp only [Act.put, List.setIfInBounds_toArray, List.set_cons_zero, List.set_cons_succ, i64_w, i32_w]
                                  rfl
                                refine last_ (i := 15) (N := none) #[true, true, true, true, true, true, true, true, true, true, true, true, true, true, true, true] rfl rfl (one_of HT_.out (by kernel_rfl)) (by decide) (fun K hK => ?_)
                                have hs38 : w36.cell? ⟨gb158, 0, none⟩ = some (u159000) := (blk_cell BK158.out 0).trans rfl
                                have hfs38 := blk_frozen BK158.out 0
                                have hns38_0 := NB147_158.out
                                have hms38_0 := NB158_147.out
                                refine skip_ (w1 := ?_) (by rfl) rfl ?_ ?_
                                rotate_left
                                · go_simp
                                  rfl
                                refine hK.out _ _ ?_
                                clear hK K
                                refine done_ (done_of HT_.out (by kernel_rfl)) ?_
                                try go_wp2
                                go_roundg k2
                                case measure => have := HJ2.out; have := HK2.out; omega
                                case rel => exact ⟨(wrap64 (x7_2 + 2)), (y161), (.slice Ao37 y161.length co37), (by first | rfl | (simp; done) | (simp [*]; done)), H', ⟨by have := HJ2.out; have := HK2.out; omega⟩, ⟨by (with_reducible repeat (first | apply Kd.R_alloc | apply Kd.R_drewN | apply Kd.R_drew)); exact Kd.R_mono (Kd.R_far (p := ⟨gb158, 0, none⟩) (Kd.R_types HO_4.out BK158.out (by decide)) (fun _ hk => hk.2) (.slice Ao37 y161.length co37)) (fun _ hk => trivial)⟩, ⟨by (with_reducible repeat (first | apply Kd.R_alloc | apply Kd.R_drewN | apply Kd.R_drew)); exact Kd.R_mono (Kd.R_far (p := ⟨gb158, 0, none⟩) (Kd.R_types HO163.out BK158.out (by decide)) (fun _ hk => hk.2) (.slice Ao37 y161.length co37)) (fun _ hk => trivial)⟩, ⟨by (with_reducible repeat (first | refine blk_drewN ?_ _ | refine blk_drew ?_ | refine blk_alloc ?_ _)); refine blk_far ?_ NB147_158.out _; (with_reducible repeat (first | refine blk_drewN ?_ _ | refine blk_drew ?_ | refine blk_alloc ?_ _)); exact BK147.out⟩, ⟨by (with_reducible repeat (first | refine blk_drewN ?_ _ | refine blk_drew ?_ | refine blk_alloc ?_ _)); refine blk_put (cs := #[u159000, .int .i64 (rd t148 0), .int .i64 (rd t148 1), .int .i64 (rd t148 2), .int .i64 (rd t148 3), .int .i64 (rd t148 4)]) ?_ 0 _ rfl; (with_reducible repeat (first | refine blk_drewN ?_ _ | refine blk_drew ?_ | refine blk_alloc ?_ _)); exact BK158.out⟩, ⟨by repeat (first | (with_reducible first | exact HB.out | apply below_alloc | apply pw_below_drewN | apply below_drew1 | refine below_set ?_ GE147.out | refine below_set ?_ GE158.out) | exact HB.out)⟩⟩
                              · rw [if_neg c34] at H
                                exact absurd H (by simp)
                            · rw [if_neg c33] at H
                              exact absurd H (by simp)
                          · rw [if_neg c32] at H
                            exact absurd H (by simp)
                        · rw [if_neg c30] at H
                          exact absurd H (by simp)
                      · rw [if_neg c29] at H
                        have c29b0 : decide (x7_2 < (t148.length : Int)) = false := decide_eq_false c29
                        clear c29
                        replace H := Option.bind_eq_some_iff.mp H
                        obtain ⟨t164, A390, H⟩ := H
                        replace H : (if t164 = true then (some (x159000_2, (rd t148 0), (rd t148 1), (rd t148 2), (rd t148 3), (rd t148 4), true)) else (some (([] : List (S23)), 0, 0, 0, 0, 0, false))) = some (r1, r2, r3, r4, r5, r6, r7) := H
                        have A39 := Aside0.mk A390
                        clear A390
                        by_cases c40 : t164 = true
                        · subst c40
                          have H1 : (some (x159000_2, (rd t148 0), (rd t148 1), (rd t148 2), (rd t148 3), (rd t148 4), true)) = some (r1, r2, r3, r4, r5, r6, r7) := by rw [if_pos rfl] at H; exact H
                          clear H
                          have H := H1
                          clear H1
                          simp only [Option.some.injEq, Prod.mk.injEq] at H
                          obtain ⟨rfl, rfl, rfl, rfl, rfl, rfl, rfl⟩ := H
                          have hnb41 := NB158_147.out
                          have hnc41 := NB147_158.out
                          have hcz42_0 : wr.cell? ⟨gb158, 0, none⟩ = some (u159000) := (blk_cell BK158.out 0).trans rfl
                          have hcz42_1 : wr.cell? ⟨gb158, 1, none⟩ = some (.int .i64 (rd t148 0)) := (blk_cell BK158.out 1).trans rfl
                          have hcz42_2 : wr.cell? ⟨gb158, 2, none⟩ = some (.int .i64 (rd t148 1)) := (blk_cell BK158.out 2).trans rfl
                          have hcz42_3 : wr.cell? ⟨gb158, 3, none⟩ = some (.int .i64 (rd t148 2)) := (blk_cell BK158.out 3).trans rfl
                          have hcz42_4 : wr.cell? ⟨gb158, 4, none⟩ = some (.int .i64 (rd t148 3)) := (blk_cell BK158.out 4).trans rfl
                          have hcz42_5 : wr.cell? ⟨gb158, 5, none⟩ = some (.int .i64 (rd t148 4)) := (blk_cell BK158.out 5).trans rfl
                          have hfz42_0 := blk_frozen BK158.out 0
                          have hfz42_1 := blk_frozen BK158.out 1
                          have hfz42_2 := blk_frozen BK158.out 2
                          have hfz42_3 := blk_frozen BK158.out 3
                          have hfz42_4 := blk_frozen BK158.out 4
                          have hfz42_5 := blk_frozen BK158.out 5
                          obtain ⟨Ao43, co43, eo43⟩ := Kd.R_slice HO_159000.out
                          subst eo43
                          go_wp2_with (first | ((with_reducible refine gate_callee (f := 16) rfl ?_); refine goesL_ (some 75) rfl rfl Try.func16 (by kernel_rfl) rfl #[.agg #[.slice Ao43 x159000_2.length co43, .int .i64 (rd t148 0), .int .i64 (rd t148 1), .int .i64 (rd t148 2), .int .i64 (rd t148 3), .int .i64 (rd t148 4)]] rfl (by (try simp only [List.map_toArray, List.map_cons, List.map_nil]); first | done | rfl | (simp only [List.length_drop, List.length_take]; rfl)) ?_; (with_reducible refine (pipe_Right.calls k2 _ _ x159000_2 (rd t148 0) (rd t148 1) (rd t148 2) (rd t148 3) (rd t148 4) true _ ?side1 ?side2 A39.out).mono ?_); (case side1 => repeat (first | exact (Kd.R_reads' HO_159000.out).2.2 | (with_reducible refine Kd.C_alloc ?_ _) | (with_reducible refine Kd.C_drewN ?_ _) | (with_reducible refine Kd.C_drew ?_))); (case side2 => exact (Kd.R_reads' HO_159000.out).2.1); rintro e w44 ⟨rfl, hb⟩; refine ⟨_, rfl, ?_⟩; have n0_ := Aside0.mk (Kd.R_below (by (with_reducible repeat (first | apply Kd.R_alloc | apply Kd.R_drewN | apply Kd.R_drew)); exact HO_4.out) hb); have n1_ := Aside0.mk (Kd.R_below (by (with_reducible repeat (first | apply Kd.R_alloc | apply Kd.R_drewN | apply Kd.R_drew)); exact HO_159000.out) hb); have n2_ := Aside0.mk (blk_below (g := gb147) (o := .cells #[.slice none 0 0, .int .i64 0, .int .i64 0, .int .i64 0, .int .i64 0, .int .i64 0] 26 (0, 0)) (by (with_reducible repeat (first | refine blk_drewN ?_ _ | refine blk_drew ?_ | refine blk_alloc ?_ _)); exact BK147.out) hb); have n3_ := Aside0.mk (blk_below (g := gb158) (o := .cells #[.slice Ao43 x159000_2.length co43, .int .i64 (rd t148 0), .int .i64 (rd t148 1), .int .i64 (rd t148 2), .int .i64 (rd t148 3), .int .i64 (rd t148 4)] 26 (0, 0)) (by (with_reducible repeat (first | refine blk_drewN ?_ _ | refine blk_drew ?_ | refine blk_alloc ?_ _)); exact BK158.out) hb); have n4_ := Aside0.mk (below_step (by repeat (first | (with_reducible first | exact HB.out | apply below_alloc | apply pw_below_drewN | apply below_drew1 | refine below_set ?_ GE147.out | refine below_set ?_ GE158.out) | exact HB.out)) hb); clear HO_4; clear HO_159000; clear BK147; clear BK158; clear HB; have HO_4 := n0_; have HO_159000 := n1_; have BK147 := n2_; have BK158 := n3_; have HB := n4_; clear n0_ n1_ n2_ n3_ n4_; (try clear hb); (try clear hb2); (try clear hk); (try clear hi); have hcz45_0 : w44.cell? ⟨gb158, 0, none⟩ = some (.slice Ao43 x159000_2.length co43) := (blk_cell BK158.out 0).trans rfl; have hcz45_1 : w44.cell? ⟨gb158, 1, none⟩ = some (.int .i64 (rd t148 0)) := (blk_cell BK158.out 1).trans rfl; have hcz45_2 : w44.cell? ⟨gb158, 2, none⟩ = some (.int .i64 (rd t148 1)) := (blk_cell BK158.out 2).trans rfl; have hcz45_3 : w44.cell? ⟨gb158, 3, none⟩ = some (.int .i64 (rd t148 2)) := (blk_cell BK158.out 3).trans rfl; have hcz45_4 : w44.cell? ⟨gb158, 4, none⟩ = some (.int .i64 (rd t148 3)) := (blk_cell BK158.out 4).trans rfl; have hcz45_5 : w44.cell? ⟨gb158, 5, none⟩ = some (.int .i64 (rd t148 4)) := (blk_cell BK158.out 5).trans rfl; have hfz45_0 := blk_frozen BK158.out 0; have hfz45_1 := blk_frozen BK158.out 1; have hfz45_2 := blk_frozen BK158.out 2; have hfz45_3 := blk_frozen BK158.out 3; have hfz45_4 := blk_frozen BK158.out 4; have hfz45_5 := blk_frozen BK158.out 5; have hcz46_0 : w44.cell? ⟨gb147, 0, none⟩ = some (.slice none 0 0) := (blk_cell BK147.out 0).trans rfl; have hcz46_1 : w44.cell? ⟨gb147, 1, none⟩ = some (.int .i64 0) := (blk_cell BK147.out 1).trans rfl; have hcz46_2 : w44.cell? ⟨gb147, 2, none⟩ = some (.int .i64 0) := (blk_cell BK147.out 2).trans rfl; have hcz46_3 : w44.cell? ⟨gb147, 3, none⟩ = some (.int .i64 0) := (blk_cell BK147.out 3).trans rfl; have hcz46_4 : w44.cell? ⟨gb147, 4, none⟩ = some (.int .i64 0) := (blk_cell BK147.out 4).trans rfl; have hcz46_5 : w44.cell? ⟨gb147, 5, none⟩ = some (.int .i64 0) := (blk_cell BK147.out 5).trans rfl; have hfz46_0 := blk_frozen BK147.out 0; have hfz46_1 := blk_frozen BK147.out 1; have hfz46_2 := blk_frozen BK147.out 2; have hfz46_3 := blk_frozen BK147.out 3; have hfz46_4 := blk_frozen BK147.out 4; have hfz46_5 := blk_frozen BK147.out 5))
                          refine bodyPost_ret (results_ct rfl _ _ gb147 26 #[.slice Ao43 x159000_2.length co43, .int .i64 (rd t148 0), .int .i64 (rd t148 1), .int .i64 (rd t148 2), .int .i64 (rd t148 3), .int .i64 (rd t148 4)] (0, 0) _ rfl (by (with_reducible repeat (first | refine blk_drewN ?_ _ | refine blk_drew ?_ | refine blk_alloc ?_ _)); refine blk_put (cs := #[.slice Ao43 x159000_2.length co43, .int .i64 (rd t148 0), .int .i64 (rd t148 1), .int .i64 (rd t148 2), .int .i64 (rd t148 3), .int .i64 0]) ?_ 5 _ rfl; (with_reducible repeat (first | refine blk_drewN ?_ _ | refine blk_drew ?_ | refine blk_alloc ?_ _)); refine blk_put (cs := #[.slice Ao43 x159000_2.length co43, .int .i64 (rd t148 0), .int .i64 (rd t148 1), .int .i64 (rd t148 2), .int .i64 0, .int .i64 0]) ?_ 4 _ rfl; (with_reducible repeat (first | refine blk_drewN ?_ _ | refine blk_drew ?_ | refine blk_alloc ?_ _)); refine blk_put (cs := #[.slice Ao43 x159000_2.length co43, .int .i64 (rd t148 0), .int .i64 (rd t148 1), .int .i64 0, .int .i64 0, .int .i64 0]) ?_ 3 _ rfl; (with_reducible repeat (first | refine blk_drewN ?_ _ | refine blk_drew ?_ | refine blk_alloc ?_ _)); refine blk_put (cs := #[.slice Ao43 x159000_2.length co43, .int .i64 (rd t148 0), .int .i64 0, .int .i64 0, .int .i64 0, .int .i64 0]) ?_ 2 _ rfl; (with_reducible repeat (first | refine blk_drewN ?_ _ | refine blk_drew ?_ | refine blk_alloc ?_ _)); refine blk_put (cs := #[.slice Ao43 x159000_2.length co43, .int .i64 0, .int .i64 0, .int .i64 0, .int .i64 0, .int .i64 0]) ?_ 1 _ rfl; (with_reducible repeat (first | refine blk_drewN ?_ _ | refine blk_drew ?_ | refine blk_alloc ?_ _)); refine blk_put (cs := #[.slice none 0 0, .int .i64 0, .int .i64 0, .int .i64 0, .int .i64 0, .int .i64 0]) ?_ 0 _ rfl; (with_reducible repeat (first | refine blk_drewN ?_ _ | refine blk_drew ?_ | refine blk_alloc ?_ _)); exact BK147.out) Try.underlying26 rfl (by kernel_rfl)) rfl ?_
                          exact ⟨_, by first | rfl | (simp [errW_none, errW_some] <;> rfl) | (simp [*, errW_none, errW_some] <;> rfl), by (with_reducible repeat (first | apply Kd.R_alloc | apply Kd.R_drewN | apply Kd.R_drew)); exact Kd.R_mono (Kd.R_far (p := ⟨gb147, 5, none⟩) (Kd.R_far (p := ⟨gb147, 4, none⟩) (Kd.R_far (p := ⟨gb147, 3, none⟩) (Kd.R_far (p := ⟨gb147, 2, none⟩) (Kd.R_far (p := ⟨gb147, 1, none⟩) (Kd.R_far (p := ⟨gb147, 0, none⟩) (Kd.R_types HO_159000.out BK147.out (by decide)) (fun _ hk => hk.2) (.slice Ao43 x159000_2.length co43)) (fun _ hk => hk.2) (.int .i64 (rd t148 0))) (fun _ hk => hk.2) (.int .i64 (rd t148 1))) (fun _ hk => hk.2) (.int .i64 (rd t148 2))) (fun _ hk => hk.2) (.int .i64 (rd t148 3))) (fun _ hk => hk.2) (.int .i64 (rd t148 4))) (fun _ hk => trivial), by repeat (first | (with_reducible first | exact HB.out | apply below_alloc | apply pw_below_drewN | apply below_drew1 | refine below_set ?_ GE147.out | refine below_set ?_ GE158.out) | exact HB.out)⟩
                        · replace c40 := Bool.eq_false_iff.mpr c40
                          subst c40
                          have H1 : (some (([] : List (S23)), 0, 0, 0, 0, 0, false)) = some (r1, r2, r3, r4, r5, r6, r7) := by rw [if_neg (show ¬ (false = true) by decide)] at H; exact H
                          clear H
                          have H := H1
                          clear H1
                          simp only [Option.some.injEq, Prod.mk.injEq] at H
                          obtain ⟨rfl, rfl, rfl, rfl, rfl, rfl, rfl⟩ := H
                          have hnb47 := NB158_147.out
                          have hnc47 := NB147_158.out
                          have hcz48_0 : wr.cell? ⟨gb158, 0, none⟩ = some (u159000) := (blk_cell BK158.out 0).trans rfl
                          have hcz48_1 : wr.cell? ⟨gb158, 1, none⟩ = some (.int .i64 (rd t148 0)) := (blk_cell BK158.out 1).trans rfl
                          have hcz48_2 : wr.cell? ⟨gb158, 2, none⟩ = some (.int .i64 (rd t148 1)) := (blk_cell BK158.out 2).trans rfl
                          have hcz48_3 : wr.cell? ⟨gb158, 3, none⟩ = some (.int .i64 (rd t148 2)) := (blk_cell BK158.out 3).trans rfl
                          have hcz48_4 : wr.cell? ⟨gb158, 4, none⟩ = some (.int .i64 (rd t148 3)) := (blk_cell BK158.out 4).trans rfl
                          have hcz48_5 : wr.cell? ⟨gb158, 5, none⟩ = some (.int .i64 (rd t148 4)) := (blk_cell BK158.out 5).trans rfl
                          have hfz48_0 := blk_frozen BK158.out 0
                          have hfz48_1 := blk_frozen BK158.out 1
                          have hfz48_2 := blk_frozen BK158.out 2
                          have hfz48_3 := blk_frozen BK158.out 3
                          have hfz48_4 := blk_frozen BK158.out 4
                          have hfz48_5 := blk_frozen BK158.out 5
                          obtain ⟨Ao49, co49, eo49⟩ := Kd.R_slice HO_159000.out
                          subst eo49
                          go_wp2_with (first | ((with_reducible refine gate_callee (f := 16) rfl ?_); refine goesL_ (some 75) rfl rfl Try.func16 (by kernel_rfl) rfl #[.agg #[.slice Ao49 x159000_2.length co49, .int .i64 (rd t148 0), .int .i64 (rd t148 1), .int .i64 (rd t148 2), .int .i64 (rd t148 3), .int .i64 (rd t148 4)]] rfl (by (try simp only [List.map_toArray, List.map_cons, List.map_nil]); first | done | rfl | (simp only [List.length_drop, List.length_take]; rfl)) ?_; (with_reducible refine (pipe_Right.calls k2 _ _ x159000_2 (rd t148 0) (rd t148 1) (rd t148 2) (rd t148 3) (rd t148 4) false _ ?side1 ?side2 A39.out).mono ?_); (case side1 => repeat (first | exact (Kd.R_reads' HO_159000.out).2.2 | (with_reducible refine Kd.C_alloc ?_ _) | (with_reducible refine Kd.C_drewN ?_ _) | (with_reducible refine Kd.C_drew ?_))); (case side2 => exact (Kd.R_reads' HO_159000.out).2.1); rintro e w50 ⟨rfl, hb⟩; refine ⟨_, rfl, ?_⟩; have n0_ := Aside0.mk (Kd.R_below (by (with_reducible repeat (first | apply Kd.R_alloc | apply Kd.R_drewN | apply Kd.R_drew)); exact HO_4.out) hb); have n1_ := Aside0.mk (Kd.R_below (by (with_reducible repeat (first | apply Kd.R_alloc | apply Kd.R_drewN | apply Kd.R_drew)); exact HO_159000.out) hb); have n2_ := Aside0.mk (blk_below (g := gb147) (o := .cells #[.slice none 0 0, .int .i64 0, .int .i64 0, .int .i64 0, .int .i64 0, .int .i64 0] 26 (0, 0)) (by (with_reducible repeat (first | refine blk_drewN ?_ _ | refine blk_drew ?_ | refine blk_alloc ?_ _)); exact BK147.out) hb); have n3_ := Aside0.mk (blk_below (g := gb158) (o := .cells #[.slice Ao49 x159000_2.length co49, .int .i64 (rd t148 0), .int .i64 (rd t148 1), .int .i64 (rd t148 2), .int .i64 (rd t148 3), .int .i64 (rd t148 4)] 26 (0, 0)) (by (with_reducible repeat (first | refine blk_drewN ?_ _ | refine blk_drew ?_ | refine blk_alloc ?_ _)); exact BK158.out) hb); have n4_ := Aside0.mk (below_step (by repeat (first | (with_reducible first | exact HB.out | apply below_alloc | apply pw_below_drewN | apply below_drew1 | refine below_set ?_ GE147.out | refine below_set ?_ GE158.out) | exact HB.out)) hb); clear HO_4; clear HO_159000; clear BK147; clear BK158; clear HB; have HO_4 := n0_; have HO_159000 := n1_; have BK147 := n2_; have BK158 := n3_; have HB := n4_; clear n0_ n1_ n2_ n3_ n4_; (try clear hb); (try clear hb2); (try clear hk); (try clear hi); have hcz51_0 : w50.cell? ⟨gb147, 0, none⟩ = some (.slice none 0 0) := (blk_cell BK147.out 0).trans rfl; have hcz51_1 : w50.cell? ⟨gb147, 1, none⟩ = some (.int .i64 0) := (blk_cell BK147.out 1).trans rfl; have hcz51_2 : w50.cell? ⟨gb147, 2, none⟩ = some (.int .i64 0) := (blk_cell BK147.out 2).trans rfl; have hcz51_3 : w50.cell? ⟨gb147, 3, none⟩ = some (.int .i64 0) := (blk_cell BK147.out 3).trans rfl; have hcz51_4 : w50.cell? ⟨gb147, 4, none⟩ = some (.int .i64 0) := (blk_cell BK147.out 4).trans rfl; have hcz51_5 : w50.cell? ⟨gb147, 5, none⟩ = some (.int .i64 0) := (blk_cell BK147.out 5).trans rfl; have hfz51_0 := blk_frozen BK147.out 0; have hfz51_1 := blk_frozen BK147.out 1; have hfz51_2 := blk_frozen BK147.out 2; have hfz51_3 := blk_frozen BK147.out 3; have hfz51_4 := blk_frozen BK147.out 4; have hfz51_5 := blk_frozen BK147.out 5))
                          refine bodyPost_ret (results_ct rfl _ _ gb147 26 #[.slice none 0 0, .int .i64 0, .int .i64 0, .int .i64 0, .int .i64 0, .int .i64 0] (0, 0) _ rfl (by (with_reducible repeat (first | refine blk_drewN ?_ _ | refine blk_drew ?_ | refine blk_alloc ?_ _)); refine blk_put (cs := #[.slice none 0 0, .int .i64 0, .int .i64 0, .int .i64 0, .int .i64 0, .int .i64 0]) ?_ 5 _ rfl; (with_reducible repeat (first | refine blk_drewN ?_ _ | refine blk_drew ?_ | refine blk_alloc ?_ _)); refine blk_put (cs := #[.slice none 0 0, .int .i64 0, .int .i64 0, .int .i64 0, .int .i64 0, .int .i64 0]) ?_ 4 _ rfl; (with_reducible repeat (first | refine blk_drewN ?_ _ | refine blk_drew ?_ | refine blk_alloc ?_ _)); refine blk_put (cs := #[.slice none 0 0, .int .i64 0, .int .i64 0, .int .i64 0, .int .i64 0, .int .i64 0]) ?_ 3 _ rfl; (with_reducible repeat (first | refine blk_drewN ?_ _ | refine blk_drew ?_ | refine blk_alloc ?_ _)); refine blk_put (cs := #[.slice none 0 0, .int .i64 0, .int .i64 0, .int .i64 0, .int .i64 0, .int .i64 0]) ?_ 2 _ rfl; (with_reducible repeat (first | refine blk_drewN ?_ _ | refine blk_drew ?_ | refine blk_alloc ?_ _)); refine blk_put (cs := #[.slice none 0 0, .int .i64 0, .int .i64 0, .int .i64 0, .int .i64 0, .int .i64 0]) ?_ 1 _ rfl; (with_reducible repeat (first | refine blk_drewN ?_ _ | refine blk_drew ?_ | refine blk_alloc ?_ _)); refine blk_put (cs := #[.slice none 0 0, .int .i64 0, .int .i64 0, .int .i64 0, .int .i64 0, .int .i64 0]) ?_ 0 _ rfl; (with_reducible repeat (first | refine blk_drewN ?_ _ | refine blk_drew ?_ | refine blk_alloc ?_ _)); exact BK147.out) Try.underlying26 rfl (by kernel_rfl)) rfl ?_
                          exact ⟨_, by first | rfl | (simp [errW_none, errW_some] <;> rfl) | (simp [*, errW_none, errW_some] <;> rfl), by first | exact Kd.R_nil _ _ _ _ _ | exact Kd.N_nil _ _ _ _ _ | exact Kd.V_nil _ _ _ _ _ | exact Kd.Q_nil _ _ _ _ _ | exact Kd.S_nil _ _ _ _ _, by repeat (first | (with_reducible first | exact HB.out | apply below_alloc | apply pw_below_drewN | apply below_drew1 | refine below_set ?_ GE147.out | refine below_set ?_ GE158.out) | exact HB.out)⟩
                · rw [if_neg c19] at H
                  exact absurd H (by simp)
              · rw [if_neg c18] at H
                exact absurd H (by simp)
            · rw [if_neg c17] at H
              exact absurd H (by simp)
          · rw [if_neg c16] at H
            exact absurd H (by simp)
        · rw [if_neg c15] at H
          exact absurd H (by simp)

end Go.Proofs.Ytdjijnpcpbjfoaa.PPipeRuns
