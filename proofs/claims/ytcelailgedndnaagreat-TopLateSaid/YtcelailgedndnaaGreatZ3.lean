/- Contracts of the functions that the statement reaches: the walk of the program by the small logic, part 3: L0, Td, L1, L2, L3, L4, D0, L5, L6, L7, L8, L9, LA, LB, LC, M1, M2, M3, M4, M5, N1, LD, LE, LF, LG. No condition beyond what each theorem states. -/
import Derived.Test.YtcelailgedndnaaGreatZ2
namespace Go.Proofs
open Go.Shelf
def Tryz.cloneM_ren : Go.Shelf.Ren := ⟨fun | 5 => 123 | 7 => 134 | n => n, fun | 23 => 112 | 25 => 135 | 3 => 175 | 4 => 4 | 20 => 20 | n => n, fun | n => n⟩
theorem Tryz.cloneM : Go.Proofs.SlLaysW.n5 Tryz.prog Tryz.cloneM_ren := {
  mixed := by kernel_rfl
  f5 := ⟨Tryz.f123.name, by decide, Tryz.func123.trans (congrArg some (by kernel_rfl))⟩
  f7 := Tryz.func134.trans (congrArg some (by kernel_rfl))
  t4 := Tryz.underlying4
  a4 := Tryz.isAgg4
  z4 := Tryz.sizeOf4
  v4 := Tryz.zeroValue4
  t20 := Tryz.underlying20
  a20 := Tryz.isAgg20
  z20 := Tryz.sizeOf20
  v20 := Tryz.zeroValue20
  t23 := Tryz.underlying112
  a23 := Tryz.isAgg112
  z23 := Tryz.sizeOf112
  v23 := Tryz.zeroValue112 }
def Tryz.sortP_ren : Go.Shelf.Ren := ⟨fun | 6 => 112 | 15 => 129 | 14 => 128 | 28 => 145 | 29 => 146 | 20 => 137 | 21 => 138 | 22 => 139 | 23 => 140 | 24 => 141 | 25 => 142 | 26 => 143 | 27 => 144 | 46 => 148 | 47 => 149 | 48 => 150 | 49 => 151 | 50 => 152 | 57 => 153 | n => n, fun | 22 => 132 | 24 => 135 | 25 => 178 | 3 => 3 | 39 => 219 | 0 => 0 | 53 => 236 | 55 => 35 | 4 => 4 | 46 => 230 | 45 => 229 | 50 => 182 | 5 => 5 | 9 => 9 | 66 => 238 | 70 => 242 | 76 => 245 | 77 => 246 | n => n, fun | n => n⟩
theorem Tryz.sortP : Go.Proofs.SlLaysF0.n6 Tryz.prog Tryz.sortP_ren := {
  mixed := by kernel_rfl
  f6 := ⟨Tryz.f112.name, by decide, Tryz.func112.trans (congrArg some (by kernel_rfl))⟩
  f14 := ⟨Tryz.f128.name, by decide, Tryz.func128.trans (congrArg some (by kernel_rfl))⟩
  f15 := Tryz.func129.trans (congrArg some (by kernel_rfl))
  f20 := ⟨Tryz.f137.name, by decide, Tryz.func137.trans (congrArg some (by kernel_rfl))⟩
  f21 := ⟨Tryz.f138.name, by decide, Tryz.func138.trans (congrArg some (by kernel_rfl))⟩
  f22 := ⟨Tryz.f139.name, by decide, Tryz.func139.trans (congrArg some (by kernel_rfl))⟩
  f23 := ⟨Tryz.f140.name, by decide, Tryz.func140.trans (congrArg some (by kernel_rfl))⟩
  f24 := ⟨Tryz.f141.name, by decide, Tryz.func141.trans (congrArg some (by kernel_rfl))⟩
  f25 := ⟨Tryz.f142.name, by decide, Tryz.func142.trans (congrArg some (by kernel_rfl))⟩
  f26 := ⟨Tryz.f143.name, by decide, Tryz.func143.trans (congrArg some (by kernel_rfl))⟩
  f27 := ⟨Tryz.f144.name, by decide, Tryz.func144.trans (congrArg some (by kernel_rfl))⟩
  f28 := Tryz.func145.trans (congrArg some (by kernel_rfl))
  f29 := Tryz.func146.trans (congrArg some (by kernel_rfl))
  f46 := ⟨Tryz.f148.name, by decide, Tryz.func148.trans (congrArg some (by kernel_rfl))⟩
  f47 := Tryz.func149.trans (congrArg some (by kernel_rfl))
  f48 := Tryz.func150.trans (congrArg some (by kernel_rfl))
  f49 := ⟨Tryz.f151.name, by decide, Tryz.func151.trans (congrArg some (by kernel_rfl))⟩
  f50 := ⟨Tryz.f152.name, by decide, Tryz.func152.trans (congrArg some (by kernel_rfl))⟩
  f57 := ⟨Tryz.f153.name, by decide, Tryz.func153.trans (congrArg some (by kernel_rfl))⟩
  t0 := Tryz.underlying0
  a0 := Tryz.isAgg0
  z0 := Tryz.sizeOf0
  v0 := Tryz.zeroValue0
  t3 := Tryz.underlying3
  a3 := Tryz.isAgg3
  z3 := Tryz.sizeOf3
  v3 := Tryz.zeroValue3
  t4 := Tryz.underlying4
  a4 := Tryz.isAgg4
  z4 := Tryz.sizeOf4
  v4 := Tryz.zeroValue4
  t5 := Tryz.underlying5
  a5 := Tryz.isAgg5
  z5 := Tryz.sizeOf5
  v5 := Tryz.zeroValue5
  t9 := Tryz.underlying9
  a9 := Tryz.isAgg9
  z9 := Tryz.sizeOf9
  v9 := Tryz.zeroValue9
  t22 := Tryz.underlying132
  a22 := Tryz.isAgg132
  z22 := Tryz.sizeOf132
  v22 := Tryz.zeroValue132
  t25 := Tryz.underlying178
  a25 := Tryz.isAgg178
  z25 := Tryz.sizeOf178
  v25 := Tryz.zeroValue178
  t39 := Tryz.underlying219
  a39 := Tryz.isAgg219
  z39 := Tryz.sizeOf219
  v39 := Tryz.zeroValue219
  t45 := Tryz.underlying229
  a45 := Tryz.isAgg229
  z45 := Tryz.sizeOf229
  v45 := Tryz.zeroValue229
  t46 := Tryz.underlying230
  a46 := Tryz.isAgg230
  z46 := Tryz.sizeOf230
  v46 := Tryz.zeroValue230
  t50 := Tryz.underlying182
  a50 := Tryz.isAgg182
  z50 := Tryz.sizeOf182
  v50 := Tryz.zeroValue182
  t53 := Tryz.underlying236
  a53 := Tryz.isAgg236
  z53 := Tryz.sizeOf236
  v53 := Tryz.zeroValue236
  t55 := Tryz.underlying35
  a55 := Tryz.isAgg35
  z55 := Tryz.sizeOf35
  v55 := Tryz.zeroValue35
  t66 := Tryz.underlying238
  a66 := Tryz.isAgg238
  z66 := Tryz.sizeOf238
  v66 := Tryz.zeroValue238
  t70 := Tryz.underlying242
  a70 := Tryz.isAgg242
  z70 := Tryz.sizeOf242
  v70 := Tryz.zeroValue242
  t76 := Tryz.underlying245
  a76 := Tryz.isAgg245
  z76 := Tryz.sizeOf245
  v76 := Tryz.zeroValue245
  t77 := Tryz.underlying246
  a77 := Tryz.isAgg246
  z77 := Tryz.sizeOf246
  v77 := Tryz.zeroValue246 }
end Go.Proofs
namespace Go.Proofs.YtcelailgedndnaaGreatS
set_option linter.unusedSectionVars false
variable [DR]
open Go.RowKit
set_option linter.unusedVariables false
set_option linter.unusedSimpArgs false
variable {α : Type} {cells : α → List Value} {sz : Nat}
theorem slice_typed {H : Type} {enc : TypeId × Value → H} {P : Program} {W : World} {base : Nat} {held : Bool} {t e : TypeId} {cs0 : List Value} {n0 : Nat} {y0 : DataW H × List MemPlace}
    (hlen : ∀ x, (cells x).length = sz) (hp : 0 < sz) {good : α → Prop} (shape : ∀ n cs y, DataW.trod enc P W base (fun _ => true) held n e cs = some y → ∃ x, cs = cells x ∧ good x)
    (hu : P.underlying t = some (.slice e)) (hc : P.cellsOf e = sz)
    (hf : DataW.trod enc P W base (fun _ => true) held n0 t cs0 = some y0) :
    ∃ (a : Option Addr) (l : List α) (cap : Nat), cs0 = [.slice a l.length cap] ∧ Fits W (rs a (l.flatMap cells)) ∧ (∀ x ∈ l, good x) ∧ l.length ≤ cap ∧ cap ≤ maxLen := by
  rcases DataW.trod_slice hu hf with ⟨hcs, _⟩ | ⟨x, len, c, elems, rest, n, _, hcs, hx, hb, hl, hm, hle, hel, hsp, _⟩
  · exact ⟨none, [], 0, hcs, fits_rs (fun j v hj => by simp at hj), fun n hn => (by cases hn), Nat.le_refl _, Nat.zero_le _⟩
  · subst hcs
    have key : ∀ k, k ≤ len → ∃ l : List α, l.length = k ∧ (∀ i x', l[i]? = some x' → (∀ r v, (cells x')[r]? = some v → W.cell? (x.add (i * sz + r)) = some v) ∧ good x') := by
      intro k
      induction k with
      | zero => intro _; exact ⟨[], rfl, fun i x' hx' => by simp at hx'⟩
      | succ k ih =>
        intro hk
        obtain ⟨l0, hl0, h0⟩ := ih (by omega)
        have he := hel k (by omega)
        rw [List.getElem?_eq_getElem (by omega), Option.bind_eq_some_iff] at he
        obtain ⟨cs, hcs, hy⟩ := he
        obtain ⟨x', rfl, hg⟩ := shape _ _ _ hy
        refine ⟨l0 ++ [x'], by simp [hl0], fun i u hq => ?_⟩
        by_cases hi : i < l0.length
        · rw [List.getElem?_append_left hi] at hq; exact h0 i u hq
        · have hik : i = k := by
            have := (List.getElem?_eq_some_iff.1 hq).1
            simp at this; omega
          subst hik
          rw [List.getElem?_append_right (by omega), hl0, Nat.sub_self] at hq
          obtain rfl : x' = u := by simpa using hq
          refine ⟨fun r v hv => ?_, hg⟩
          rw [hc] at hcs
          have hrl : r < sz := by rw [← hlen x']; exact (List.getElem?_eq_some_iff.1 hv).1
          have := (World.cells?_some hcs).2.2 r hrl
          rw [← add_add, this, hv]
    obtain ⟨l, hl', hall⟩ := key len (Nat.le_refl _)
    refine ⟨some x, l, c, by rw [hl'], fits_rs (fun j v hj => ?_), fun x' hx' => ?_, by rw [hl']; exact hl, hm⟩
    · obtain ⟨x', hx', hv⟩ := flat_get hlen hp l j v hj
      refine ⟨x, rfl, ?_⟩
      have := (hall _ _ hx').1 _ _ hv
      rw [show j / sz * sz + j % sz = j by rw [Nat.mul_comm]; exact Nat.div_add_mod j sz] at this
      exact this
    · obtain ⟨i, hi⟩ := List.getElem?_of_mem hx'
      exact (hall i x' hi).2
end Go.Proofs.YtcelailgedndnaaGreatS
namespace Go.Proofs.YtcelailgedndnaaGreatS
set_option linter.unusedSectionVars false
variable [DR]
open Go.RowKit
set_option linter.unusedVariables false
set_option linter.unusedSimpArgs false
attribute [local irreducible] Ops Ex Spec T V QO OA Rn OS
theorem isNaN (x : Int) : Spec Tryz.prog 114 [.int .i64 x] 1 (X := Unit) (fun _ => .bool false) (fun _ => True) (fun _ => 1) := by
  have h : (x != x) = false := by simp
  refine spec_of Tryz.func114 rfl Tryz.ntmps114 rfl ?_
  repeat' (first | (refine rG 0 [0] ?_; ((try (refine wK ?_; intro _)))) | (refine rG 1 [2] ?_; ((try (refine wK ?_; intro _)))) | refine wC ?_ | (refine ex_split rfl ?_ ?_ <;> intro hc))
  exact fin (.inr rfl) () (resl1 rfl (rv_tmp (by first | rfl | (rw [h]; rfl)))) trivial (Ent.refl _)
def cmpI (x y : Int) : Int := if x < y then -1 else if x > y then 1 else 0
theorem compare (x y : Int) {r : Int} (hr : cmpI x y = r) : Spec Tryz.prog 91 [.int .i64 x, .int .i64 y] 1 (X := Unit) (fun _ => .int .i64 r) (fun _ => True) (fun _ => 1) := by
  subst hr
  unfold cmpI
  by_cases h1 : x < y
  · have d16 : decide (x < y) = true := decide_eq_true h1
    rw [if_pos h1]
    refine spec_of Tryz.func91 rfl Tryz.ntmps91 rfl ?_
    repeat' (first | (refine rG 0 [0, 1] ?_; ((try (refine wK ?_; intro _)))) | (refine rG 1 [0, 1, 5] ?_; ((try refine wO ?_) <;> (try (refine o_call (isNaN _) (by first | exact True.intro | (show _ < _; decide)) rfl rfl (fun _ _ => ?_))) <;> (try (refine wK ?_; intro _)))) | (refine rG 2 [0, 1, 5, 6] ?_; ((try refine wO ?_) <;> (try (refine o_call (isNaN _) (by first | exact True.intro | (show _ < _; decide)) rfl rfl (fun _ _ => ?_))) <;> (try (refine wK ?_; intro _)))) | (refine rG 3 [0, 1, 6, 11] ?_; ((try (refine wK ?_; intro _)))) | (refine rG 4 [12] ?_; ((try (refine wK ?_; intro _)))) | (refine rG 5 [4] ?_; ((try (refine wK ?_; intro _)))) | (refine rG 6 [4] ?_; ((try (refine wK ?_; intro _)))) | (refine rG 7 [0, 1, 13] ?_; ((try (refine wK ?_; intro _)))) | (refine rG 8 [4] ?_; ((try (refine wK ?_; intro _)))) | (refine rG 9 [0, 1, 16] ?_; ((try (refine wK ?_; intro _)))) | (refine rG 10 [4] ?_; ((try (refine wK ?_; intro _)))) | (refine rG 11 [19] ?_; ((try (refine wK ?_; intro _)))) | (refine rG 12 [4] ?_; ((try (refine wK ?_; intro _)))) | (refine rG 13 [4] ?_; ((try (refine wK ?_; intro _)))) | refine wC ?_ | (refine ex_split rfl ?_ ?_ <;> intro hc))
    exact fin (.inr rfl) () (resl1 rfl (rv_tmp rfl)) trivial (Ent.toOne _)
  · have d16 : decide (x < y) = false := decide_eq_false h1
    rw [if_neg h1]
    by_cases h2 : x > y
    · have d19 : decide (x > y) = true := decide_eq_true h2
      rw [if_pos h2]
      refine spec_of Tryz.func91 rfl Tryz.ntmps91 rfl ?_
      repeat' (first | (refine rG 0 [0, 1] ?_; ((try (refine wK ?_; intro _)))) | (refine rG 1 [0, 1, 5] ?_; ((try refine wO ?_) <;> (try (refine o_call (isNaN _) (by first | exact True.intro | (show _ < _; decide)) rfl rfl (fun _ _ => ?_))) <;> (try (refine wK ?_; intro _)))) | (refine rG 2 [0, 1, 5, 6] ?_; ((try refine wO ?_) <;> (try (refine o_call (isNaN _) (by first | exact True.intro | (show _ < _; decide)) rfl rfl (fun _ _ => ?_))) <;> (try (refine wK ?_; intro _)))) | (refine rG 3 [0, 1, 6, 11] ?_; ((try (refine wK ?_; intro _)))) | (refine rG 4 [12] ?_; ((try (refine wK ?_; intro _)))) | (refine rG 5 [4] ?_; ((try (refine wK ?_; intro _)))) | (refine rG 6 [4] ?_; ((try (refine wK ?_; intro _)))) | (refine rG 7 [0, 1, 13] ?_; ((try (refine wK ?_; intro _)))) | (refine rG 8 [4] ?_; ((try (refine wK ?_; intro _)))) | (refine rG 9 [0, 1, 16] ?_; ((try (refine wK ?_; intro _)))) | (refine rG 10 [4] ?_; ((try (refine wK ?_; intro _)))) | (refine rG 11 [19] ?_; ((try (refine wK ?_; intro _)))) | (refine rG 12 [4] ?_; ((try (refine wK ?_; intro _)))) | (refine rG 13 [4] ?_; ((try (refine wK ?_; intro _)))) | refine wC ?_ | (refine ex_split rfl ?_ ?_ <;> intro hc))
      exact fin (.inr rfl) () (resl1 rfl (rv_tmp rfl)) trivial (Ent.toOne _)
    · have d19 : decide (x > y) = false := decide_eq_false h2
      rw [if_neg h2]
      refine spec_of Tryz.func91 rfl Tryz.ntmps91 rfl ?_
      repeat' (first | (refine rG 0 [0, 1] ?_; ((try (refine wK ?_; intro _)))) | (refine rG 1 [0, 1, 5] ?_; ((try refine wO ?_) <;> (try (refine o_call (isNaN _) (by first | exact True.intro | (show _ < _; decide)) rfl rfl (fun _ _ => ?_))) <;> (try (refine wK ?_; intro _)))) | (refine rG 2 [0, 1, 5, 6] ?_; ((try refine wO ?_) <;> (try (refine o_call (isNaN _) (by first | exact True.intro | (show _ < _; decide)) rfl rfl (fun _ _ => ?_))) <;> (try (refine wK ?_; intro _)))) | (refine rG 3 [0, 1, 6, 11] ?_; ((try (refine wK ?_; intro _)))) | (refine rG 4 [12] ?_; ((try (refine wK ?_; intro _)))) | (refine rG 5 [4] ?_; ((try (refine wK ?_; intro _)))) | (refine rG 6 [4] ?_; ((try (refine wK ?_; intro _)))) | (refine rG 7 [0, 1, 13] ?_; ((try (refine wK ?_; intro _)))) | (refine rG 8 [4] ?_; ((try (refine wK ?_; intro _)))) | (refine rG 9 [0, 1, 16] ?_; ((try (refine wK ?_; intro _)))) | (refine rG 10 [4] ?_; ((try (refine wK ?_; intro _)))) | (refine rG 11 [19] ?_; ((try (refine wK ?_; intro _)))) | (refine rG 12 [4] ?_; ((try (refine wK ?_; intro _)))) | (refine rG 13 [4] ?_; ((try (refine wK ?_; intro _)))) | refine wC ?_ | (refine ex_split rfl ?_ ?_ <;> intro hc))
      exact fin (.inr rfl) () (resl1 rfl (rv_tmp rfl)) trivial (Ent.toOne _)
def orI (x y : Int) : Int := if x = 0 then y else x
theorem or2 (H : HP) (a : Option Addr) (x y : Int) (c : Nat) [hr : RdC H a [.int .i64 x, .int .i64 y]] {r : Int} (hr' : orI x y = r) : Spec Tryz.prog 90 [.slice a 2 c] H (X := Unit) (fun _ => .int .i64 r) (fun _ => True) (fun _ => H) := by
  subst hr'
  refine spec_of Tryz.func90 rfl Tryz.ntmps90 rfl ?_
  refine Ex.rd_some (a := a) (l := [.int .i64 x, .int .i64 y]) (by simp) (fun ad ha => ?_)
  subst ha
  have hv0 : ([.int .i64 x, .int .i64 y] : List Value)[(0 : Int).toNat * 1]? = some (.int .i64 x) := rfl
  have hv1 : ([.int .i64 x, .int .i64 y] : List Value)[(1 : Int).toNat * 1]? = some (.int .i64 y) := rfl
  unfold orI
  by_cases h1 : x = 0
  · subst h1
    rw [if_pos rfl]
    by_cases h2 : y = 0
    · subst h2
      repeat' (first | (refine rG 0 [0] ?_; ((try (refine wK ?_; intro _)))) | (refine rG 1 [0, 3] ?_; ((try (refine wK ?_; intro _)))) | (refine rG 2 [3, 6, 7, 8] ?_; ((try (refine wK ?_; intro _)))) | refine wC ?_ | (refine ex_split rfl ?_ ?_ <;> intro hc))
      refine ex_rounds 3 ?_
      refine rn_succ ?_
      repeat' (first | (refine rG 3 [3, 6, 7, 8, 9] ?_; ((try (refine wK ?_; intro _)))) | (refine rG 4 [3, 5, 6, 7, 8] ?_; ((try (refine wK ?_; intro _)))) | (refine rG 5 [3, 5, 6, 7, 8, 14] ?_; ((try (refine wK ?_; intro _)))) | (refine rG 7 [3, 6, 7, 8] ?_; ((try (refine wK ?_; intro _)))) | refine wC ?_ | (refine ex_split rfl ?_ ?_ <;> intro hc))
      refine rn_succ ?_
      repeat' (first | (refine rG 3 [3, 6, 7, 8, 9] ?_; ((try (refine wK ?_; intro _)))) | (refine rG 4 [3, 5, 6, 7, 8] ?_; ((try (refine wK ?_; intro _)))) | (refine rG 5 [3, 5, 6, 7, 8, 14] ?_; ((try (refine wK ?_; intro _)))) | (refine rG 7 [3, 6, 7, 8] ?_; ((try (refine wK ?_; intro _)))) | refine wC ?_ | (refine ex_split rfl ?_ ?_ <;> intro hc))
      refine rn_succ ?_
      repeat' (first | (refine rG 3 [3, 6, 7, 8, 9] ?_; ((try (refine wK ?_; intro _)))) | (refine rG 8 [2] ?_; ((try (refine wK ?_; intro _)))) | refine wC ?_ | (refine ex_split rfl ?_ ?_ <;> intro hc))
      exact fin (.inr rfl) () (resl1 rfl (rv_tmp rfl)) trivial (Ent.refl _)
    · have d14 : (y != 0) = true := by simpa using h2
      repeat' (first | (refine rG 0 [0] ?_; ((try (refine wK ?_; intro _)))) | (refine rG 1 [0, 3] ?_; ((try (refine wK ?_; intro _)))) | (refine rG 2 [3, 6, 7, 8] ?_; ((try (refine wK ?_; intro _)))) | refine wC ?_ | (refine ex_split rfl ?_ ?_ <;> intro hc))
      refine ex_rounds 2 ?_
      refine rn_succ ?_
      repeat' (first | (refine rG 3 [3, 6, 7, 8, 9] ?_; ((try (refine wK ?_; intro _)))) | (refine rG 4 [3, 5, 6, 7, 8] ?_; ((try (refine wK ?_; intro _)))) | (refine rG 5 [3, 5, 6, 7, 8, 14] ?_; ((try (refine wK ?_; intro _)))) | (refine rG 7 [3, 6, 7, 8] ?_; ((try (refine wK ?_; intro _)))) | refine wC ?_ | (refine ex_split rfl ?_ ?_ <;> intro hc))
      refine rn_succ ?_
      repeat' (first | (refine rG 3 [3, 6, 7, 8, 9] ?_; ((try (refine wK ?_; intro _)))) | (refine rG 4 [3, 5, 6, 7, 8] ?_; ((try (refine wK ?_; intro _)))) | (refine rG 5 [3, 5, 6, 7, 8, 14] ?_; ((try (refine wK ?_; intro _)))) | (refine rG 6 [2] ?_; ((try (refine wK ?_; intro _)))) | refine wC ?_ | (refine ex_split rfl ?_ ?_ <;> intro hc))
      exact fin (.inr rfl) () (resl1 rfl (rv_tmp rfl)) trivial (Ent.refl _)
  · rw [if_neg h1]
    have d14 : (x != 0) = true := by simpa using h1
    repeat' (first | (refine rG 0 [0] ?_; ((try (refine wK ?_; intro _)))) | (refine rG 1 [0, 3] ?_; ((try (refine wK ?_; intro _)))) | (refine rG 2 [3, 6, 7, 8] ?_; ((try (refine wK ?_; intro _)))) | refine wC ?_ | (refine ex_split rfl ?_ ?_ <;> intro hc))
    refine ex_rounds 1 ?_
    refine rn_succ ?_
    repeat' (first | (refine rG 3 [3, 6, 7, 8, 9] ?_; ((try (refine wK ?_; intro _)))) | (refine rG 4 [3, 5, 6, 7, 8] ?_; ((try (refine wK ?_; intro _)))) | (refine rG 5 [3, 5, 6, 7, 8, 14] ?_; ((try (refine wK ?_; intro _)))) | (refine rG 6 [2] ?_; ((try (refine wK ?_; intro _)))) | refine wC ?_ | (refine ex_split rfl ?_ ?_ <;> intro hc))
    exact fin (.inr rfl) () (resl1 rfl (rv_tmp rfl)) trivial (Ent.refl _)
end Go.Proofs.YtcelailgedndnaaGreatS
namespace Go.Proofs.YtcelailgedndnaaGreatS
set_option linter.unusedSectionVars false
variable [DR]
open Go.RowKit
set_option linter.unusedVariables false
set_option linter.unusedSimpArgs false
attribute [local irreducible] Ops Ex Spec T V QO OA Rn OS
abbrev Pl : Type := Int × Int
def plc (x : Pl) : List Value := [.int .i64 x.1, .int .i64 x.2]
def cmpP (x y : Pl) : Int := orI (cmpI x.1 y.1) (cmpI x.2 y.2)
set_option maxHeartbeats 4000000 in
theorem closure (x y : Pl) : Spec Tryz.prog 89 [.agg (plc x).toArray, .agg (plc y).toArray] 1 (X := Unit) (fun _ => .int .i64 (cmpP x y)) (fun _ => True) (fun _ => 1) := by
  obtain ⟨a, b⟩ := x
  obtain ⟨c, d⟩ := y
  show Spec _ _ [.agg (List.toArray [.int .i64 a, .int .i64 b]), .agg (List.toArray [.int .i64 c, .int .i64 d])] _ _ _ _
  unfold cmpP
  refine spec_of Tryz.func89 rfl Tryz.ntmps89 rfl ?_
  repeat' (first | (refine rG 0 [2, 3] ?_; ((try ((refine o_box (by decide) (v := .agg (List.toArray _)) rfl rfl (fun _ => ?_)))) <;> (try ((refine o_box (by decide) (v := .agg (List.toArray _)) rfl rfl (fun _ => ?_)))) <;> (try (refine wK ?_; intro _)))) | (refine rA 1 [4] 13 ?_; (refine os_all ?_); ((refine lQ 0 ?_; ((refine lQ 1 ?_; ((refine lQ 2 ?_; ((refine lQ 3 ?_; ((refine lQ 5 ?_; ((refine lQ 6 ?_; ((refine lQ 7 ?_; ((refine lQ 8 ?_; ((refine oN 4 ?_ <;> (refine o_call (compare _ _ rfl) (by first | exact True.intro | (show _ < _; decide)) rfl rfl (fun _ _ => ?_)) <;> (refine os_nil ?_) <;> ((refine oN 9 ?_ <;> (refine o_call (compare _ _ rfl) (by first | exact True.intro | (show _ < _; decide)) rfl rfl (fun _ _ => ?_)) <;> (refine os_nil ?_) <;> ((refine oN 10 ?_ <;> ((refine o_buildSlice (by decide) rfl rfl rfl (fun b15 => ?_))) <;> (refine os_nil ?_) <;> ((refine oN 11 ?_ <;> (refine o_callH (or2 _ (some ⟨b15, 0, none⟩) _ _ _ rfl) (by first | exact True.intro | (show _ < _; decide)) rfl rfl (fun _ _ => ?_)) <;> (refine os_nil ?_) <;> ((refine lQ 12 ?_; ((refine dK ?_; intro _))))))))))))))))))))))))))))) | refine wC ?_ | (refine ex_split rfl ?_ ?_ <;> intro hc))
  exact fin (.inr rfl) () (resl1 rfl (rv_tmp rfl)) trivial (Ent.toOne _)
end Go.Proofs.YtcelailgedndnaaGreatS
namespace Go.Proofs.YtcelailgedndnaaGreatS
open Go.RowKit Go.Sort Go.Shelf Go.Lib
set_option linter.unusedVariables false
set_option linter.unusedSimpArgs false
section
local instance : DR := ⟨true⟩
theorem law_exact {P : Program} {f : FuncId} {vs : List Value} {X : Type} {v : Value} {pr : X → Prop} {res : X → HP} (hs : Spec P f vs 1 (fun _ => v) pr res) (W : World) :
    Calls P f vs.toArray W (fun e w' => e = .returned v ∧ ∃ q os', w' = grow (W.drewN q) os') := by
  have hf : Fits W (1 : HP) := ⟨fun _ => none, fun _ => rfl, fun _ _ e => by cases e⟩
  refine (hs W W (snap W) hf.sat).mono ?_
  rintro e w' ⟨x, rfl, _, s⟩
  refine ⟨rfl, w'.drawn - W.drawn, w'.heap.extract W.heap.size w'.heap.size, ?_⟩
  have h1 := s.os
  have h2 := s.tape
  have h3 := s.output
  have h4 : W.heap.size ≤ w'.heap.size ∧ W.drawn ≤ w'.drawn := ⟨s.size.1, s.size.2 rfl⟩
  have h5 : ∀ b (h : b < W.heap.size), w'.heap[b]? = some W.heap[b] := fun b hb => by
    obtain ⟨r, hr, hm⟩ := s.drop.mem
    exact hm b false _ ((hr b).trans (all_some (Array.getElem?_eq_getElem hb)))
  obtain ⟨hp, tp, dr, os, out⟩ := w'
  simp only at h1 h2 h3 h4 h5 ⊢
  subst h1; subst h2; subst h3
  unfold grow World.drewN
  have hd : W.drawn + (dr - W.drawn) = dr := by omega
  have hh : W.heap ++ hp.extract W.heap.size hp.size = hp := by
    apply Array.ext_getElem?
    intro i
    by_cases hi : i < W.heap.size
    · rw [Array.getElem?_append_left hi, h5 i hi, Array.getElem?_eq_getElem hi]
    · rw [Array.getElem?_append_right (by omega), Array.getElem?_extract]
      by_cases h6 : i < hp.size
      · rw [if_pos (by omega)]; congr 1; omega
      · rw [if_neg (by omega), Array.getElem?_eq_none (by omega)]
  simp only [hd, hh]
theorem cmpLays (blk off size : Nat) (w : World) : CmpLays Tryz.prog 89 #[] plc 2 cmpP blk off size w :=
  fun _ _ _ _ x y => law_exact (closure x y) _
end
set_option linter.unusedSectionVars false
variable [DR]
theorem of_calls {P : Program} {f : FuncId} {vs : List Value} {v : Value} (h : ∀ W, Calls P f vs.toArray W fun e w' => e = .returned v ∧ w' = W) : Spec P f vs 1 (X := Unit) (fun _ => v) (fun _ => True) (fun _ => 1) := by
  intro w0 w F s
  refine (h w).mono ?_
  rintro e w' ⟨rfl, rfl⟩
  exact ⟨(), rfl, trivial, s⟩
set_option linter.unusedVariables false
set_option linter.unusedSimpArgs false
attribute [local irreducible] Ops Ex Spec T V QO OA Rn OS
theorem ltP (x y : Pl) : ltOf cmpP x y = decide (x.1 < y.1 ∨ (x.1 = y.1 ∧ x.2 < y.2)) := by
  unfold ltOf cmpP orI cmpI
  obtain ⟨a, b⟩ := x
  obtain ⟨c, d⟩ := y
  simp only
  refine decide_eq_decide.2 ?_
  by_cases h1 : a < c
  · simp [h1]
  · by_cases h2 : c < a
    · simp [h1, h2]; omega
    · by_cases h3 : b < d
      · simp [h1, h2, h3]; omega
      · by_cases h4 : d < b
        · simp [h1, h2, h3, h4]
        · simp [h1, h2, h3, h4]
theorem swoP : SWO (ltOf cmpP) where
  irrefl x := by rw [ltP]; simp
  trans x y z h1 h2 := by rw [ltP] at *; simp only [decide_eq_true_eq] at *; omega
  ntrans x y z h1 h2 := by rw [ltP] at *; simp only [decide_eq_false_iff_not] at *; omega
theorem lenZ : Spec Tryz.prog 129 [.int .u64 0] 1 (X := Unit) (fun _ => .int .i64 0) (fun _ => True) (fun _ => 1) :=
  of_calls fun W => (Any.bits_Len (SlLaysF0.n15.bits (P := Tryz.prog) (ρ := Tryz.sortP_ren) { Tryz.sortP with }) 0 W (by omega) (by omega))
theorem insN (v : Value) : Spec Tryz.prog 137 [.slice none 0 0, .int .i64 0, .int .i64 0, v] 1 (X := Unit) (fun _ => .tuple #[]) (fun _ => True) (fun _ => 1) := by
  refine spec_of Tryz.func137 rfl Tryz.ntmps137 rfl ?_
  repeat' (first | (refine ex_regk (id := 0) (ts := [0, 1, 2, 3, 8]) ?_; ((try (first | refine o_mv (v := .int _ _) (by decide) rfl ?_ | refine o_mv (by decide) rfl ?_)) <;> (try (refine o_int (by decide) rfl rfl rfl ?_)) <;> (try (first | refine o_as (v := .int _ _) (by decide) rfl ?_ | refine o_as (by decide) rfl ?_)) <;> (try (refine ops_nilk ?_; intro _)) <;> (try ((first | refine keep_cons (v := .slice _ _ _) rfl ?_ | refine keep_cons (v := _) rfl ?_) <;> (first | refine keep_cons (v := .int _ _) rfl ?_ | refine keep_cons (v := _) rfl ?_) <;> (first | refine keep_cons (v := .int _ _) rfl ?_ | refine keep_cons (v := _) rfl ?_) <;> (first | refine keep_cons (v := _) rfl ?_) <;> (first | refine keep_cons (v := .int _ _) rfl ?_ | refine keep_cons (v := _) rfl ?_))) <;> (try refine keep_nil ?_))) | (refine ex_regk (id := 1) (ts := [0, 1, 2, 3, 8, 14]) ?_; ((try (first | refine o_mv (v := .int _ _) (by decide) rfl ?_ | refine o_mv (by decide) rfl ?_)) <;> (try (first | refine o_mv (v := .int _ _) (by decide) rfl ?_ | refine o_mv (by decide) rfl ?_)) <;> (try (refine o_int (by decide) rfl rfl rfl ?_)) <;> (try (refine ops_nilk ?_; intro _)) <;> (try ((first | refine keep_cons (v := .slice _ _ _) rfl ?_ | refine keep_cons (v := _) rfl ?_) <;> (first | refine keep_cons (v := .int _ _) rfl ?_ | refine keep_cons (v := _) rfl ?_) <;> (first | refine keep_cons (v := .int _ _) rfl ?_ | refine keep_cons (v := _) rfl ?_) <;> (first | refine keep_cons (v := _) rfl ?_) <;> (first | refine keep_cons (v := .int _ _) rfl ?_ | refine keep_cons (v := _) rfl ?_) <;> (first | refine keep_cons (v := .bool _) rfl ?_ | refine keep_cons (v := _) rfl ?_))) <;> (try refine keep_nil ?_))) | (refine ex_regk (id := 3) (ts := [0, 1, 2, 3, 8, 9]) ?_; ((try (first | refine o_mv (v := .int _ _) (by decide) rfl ?_ | refine o_mv (by decide) rfl ?_)) <;> (try (first | refine o_as (v := .int _ _) (by decide) rfl ?_ | refine o_as (by decide) rfl ?_)) <;> (try (refine ops_nilk ?_; intro _)) <;> (try ((first | refine keep_cons (v := .slice _ _ _) rfl ?_ | refine keep_cons (v := _) rfl ?_) <;> (first | refine keep_cons (v := .int _ _) rfl ?_ | refine keep_cons (v := _) rfl ?_) <;> (first | refine keep_cons (v := .int _ _) rfl ?_ | refine keep_cons (v := _) rfl ?_) <;> (first | refine keep_cons (v := _) rfl ?_) <;> (first | refine keep_cons (v := .int _ _) rfl ?_ | refine keep_cons (v := _) rfl ?_) <;> (first | refine keep_cons (v := .int _ _) rfl ?_ | refine keep_cons (v := _) rfl ?_))) <;> (try refine keep_nil ?_))) | (refine rA 6 [0, 1, 2, 3, 8, 9] 18 ?_; ((refine aM 0 ?_) <;> ((refine aM 1 ?_) <;> ((refine aM 2 ?_) <;> ((refine aM 3 ?_) <;> ((refine aM 5 ?_) <;> ((refine aM 6 ?_) <;> ((refine aM 10 ?_) <;> ((refine aM 11 ?_) <;> ((refine aO 4 ?_ <;> (refine o_int (by decide) rfl rfl rfl ?_) <;> refine oa_nil ?_) <;> ((refine aO 7 ?_ <;> (refine o_int (by decide) rfl rfl rfl ?_) <;> refine oa_nil ?_) <;> ((refine aO 8 ?_ <;> (refine o_index (by decide) rfl rfl (by first | decide | assumption | omega) (by first | decide | assumption | omega) ?_) <;> refine oa_nil ?_) <;> ((refine aO 9 ?_ <;> (first | refine o_load_a (by decide) rfl rfl ?_ | refine o_load_ra (by decide) rfl (by assumption) ?_ | refine o_load_ra (by decide) rfl rfl ?_) <;> refine oa_nil ?_) <;> ((refine aO 12 ?_ <;> (refine o_index (by decide) rfl rfl (by first | decide | assumption | omega) (by first | decide | assumption | omega) ?_) <;> refine oa_nil ?_) <;> ((refine aO 13 ?_ <;> (first | refine o_load_a (by decide) rfl rfl ?_ | refine o_load_ra (by decide) rfl (by assumption) ?_ | refine o_load_ra (by decide) rfl rfl ?_) <;> refine oa_nil ?_) <;> ((refine aO 14 ?_ <;> (refine o_index (by decide) rfl rfl (by first | decide | assumption | omega) (by first | decide | assumption | omega) ?_) <;> refine oa_nil ?_) <;> ((refine aO 15 ?_ <;> (first | refine o_store_a rfl rfl rfl rfl rfl ?_ | refine o_store_oa rfl rfl rfl (Nat.succ_pos _) rfl (by assumption) ?_) <;> refine oa_nil ?_) <;> ((refine aO 16 ?_ <;> (refine o_index (by decide) rfl rfl (by first | decide | assumption | omega) (by first | decide | assumption | omega) ?_) <;> refine oa_nil ?_) <;> ((refine aO 17 ?_ <;> (first | refine o_store_a rfl rfl rfl rfl rfl ?_ | refine o_store_oa rfl rfl rfl (Nat.succ_pos _) rfl (by assumption) ?_) <;> refine oa_nil ?_) <;> ((refine dK ?_; intro _))))))))))))))))))))) | (refine ex_regk (id := 5) (ts := [0, 1, 2, 3, 8, 9]) ?_; ((try (first | refine o_mv (v := .int _ _) (by decide) rfl ?_ | refine o_mv (by decide) rfl ?_)) <;> (try (refine o_int (by decide) rfl rfl rfl ?_)) <;> (try (first | refine o_as (v := .int _ _) (by decide) rfl ?_ | refine o_as (by decide) rfl ?_)) <;> (try (refine ops_nilk ?_; intro _)) <;> (try ((first | refine keep_cons (v := .slice _ _ _) rfl ?_ | refine keep_cons (v := _) rfl ?_) <;> (first | refine keep_cons (v := .int _ _) rfl ?_ | refine keep_cons (v := _) rfl ?_) <;> (first | refine keep_cons (v := .int _ _) rfl ?_ | refine keep_cons (v := _) rfl ?_) <;> (first | refine keep_cons (v := _) rfl ?_) <;> (first | refine keep_cons (v := .int _ _) rfl ?_ | refine keep_cons (v := _) rfl ?_) <;> (first | refine keep_cons (v := .int _ _) rfl ?_ | refine keep_cons (v := _) rfl ?_))) <;> (try refine keep_nil ?_))) | (refine ex_regk (id := 2) (ts := [0, 1, 2, 3, 8]) ?_; ((try (first | refine o_mv (v := .int _ _) (by decide) rfl ?_ | refine o_mv (by decide) rfl ?_)) <;> (try (refine o_int (by decide) rfl rfl rfl ?_)) <;> (try (first | refine o_as (v := .int _ _) (by decide) rfl ?_ | refine o_as (by decide) rfl ?_)) <;> (try (refine ops_nilk ?_; intro _)) <;> (try ((first | refine keep_cons (v := .slice _ _ _) rfl ?_ | refine keep_cons (v := _) rfl ?_) <;> (first | refine keep_cons (v := .int _ _) rfl ?_ | refine keep_cons (v := _) rfl ?_) <;> (first | refine keep_cons (v := .int _ _) rfl ?_ | refine keep_cons (v := _) rfl ?_) <;> (first | refine keep_cons (v := _) rfl ?_) <;> (first | refine keep_cons (v := .int _ _) rfl ?_ | refine keep_cons (v := _) rfl ?_))) <;> (try refine keep_nil ?_))) | refine wC ?_ | refine ex_rounds 64 ?_ | refine rn_succ ?_ | refine finO (.inr rfl) (resl1 rfl (rv_tmp rfl)) ?_ | refine finO (.inl rfl) (resl0 rfl) ?_ | refine finO (.inr rfl) (resl0 rfl) ?_ | refine finO (.inr rfl) (resl2 rfl (rv_tmp rfl) (rv_tmp rfl)) ?_ | refine finO (.inr rfl) (resl1 rfl (rv_cell_a rfl rfl)) ?_ | refine finO (.inr rfl) (resl1 rfl (rv_cell_s rfl rfl)) ?_)
  exact fin (.inl rfl) () (resl0 rfl) trivial (Ent.refl _)
theorem pdqN (v : Value) (k : Int) : Spec Tryz.prog 128 [.slice none 0 0, .int .i64 0, .int .i64 0, .int .i64 k, v] 1 (X := Unit) (fun _ => .tuple #[]) (fun _ => True) (fun _ => 1) := by
  refine spec_of Tryz.func128 rfl Tryz.ntmps128 rfl ?_
  repeat' (first | (refine rG 0 [0, 1, 2, 3, 4, 10] ?_; ((try (refine wK ?_; intro _)))) | (refine rG 1 [0, 1, 2, 3, 4, 10, 11] ?_; ((try (refine wK ?_; intro _)))) | refine wC ?_ | (refine ex_split rfl ?_ ?_ <;> intro hc))
  refine ex_rounds 1 ?_
  refine rn_succ ?_
  repeat' (first | (refine rG 2 [0, 1, 2, 3, 4, 10, 11, 12] ?_; ((try (refine wK ?_; intro _)))) | (refine rG 3 [0, 1, 2, 3, 4, 10, 11, 12, 25] ?_; ((try (refine wK ?_; intro _)))) | (refine rG 4 [] ?_; ((try refine wO ?_) <;> (try (refine o_call (insN _) (by first | exact True.intro | (show _ < _; decide)) rfl rfl (fun _ _ => ?_))) <;> (try (refine wK ?_; intro _)))) | refine wC ?_ | (refine ex_split rfl ?_ ?_ <;> intro hc))
  exact fin (.inr rfl) () (resl0 rfl) trivial (Ent.toOne _)
theorem sortN (v : Value) : Spec Tryz.prog 112 [.slice none 0 0, v] 1 (X := Unit) (fun _ => .tuple #[]) (fun _ => True) (fun _ => 1) := by
  refine spec_of Tryz.func112 rfl Tryz.ntmps112 rfl ?_
  repeat' (first | (refine rG 0 [0, 1, 4] ?_; ((try (refine wK ?_; intro _)))) | (refine rG 1 [] ?_; ((try refine wO ?_) <;> (try (refine o_call lenZ (by first | exact True.intro | (show _ < _; decide)) rfl rfl (fun _ _ => ?_))) <;> (try refine wO ?_) <;> (try (refine o_call (pdqN _ _) (by first | exact True.intro | (show _ < _; decide)) rfl rfl (fun _ _ => ?_))) <;> (try (refine wK ?_; intro _)))) | refine wC ?_ | (refine ex_split rfl ?_ ?_ <;> intro hc))
  exact fin (.inl rfl) () (resl0 rfl) trivial (Ent.toOne _)
end Go.Proofs.YtcelailgedndnaaGreatS
namespace Go.Proofs.YtcelailgedndnaaGreatS
set_option linter.unusedSectionVars false
variable [DR]
open Go.RowKit Go.Sort Go.Shelf Go.Lib
set_option linter.unusedVariables false
set_option linter.unusedSimpArgs false
theorem Sat.grow {w0 w : World} {A : HP} (h : Sat w0 w A) (os : Array Obj) : Sat w0 (grow w os) A := by
  obtain ⟨r, hr, hm⟩ := h.mem
  refine ⟨h.os, h.tape, h.output, ⟨by have := h.size.1; show w0.heap.size ≤ (w.heap ++ os).size; simp; omega, h.size.2⟩, r, hr, fun b p o e => ?_⟩
  have := hm b p o e
  have hlt : b < w.heap.size := (Array.getElem?_eq_some_iff.1 this).1
  show (w.heap ++ os)[b]? = some o
  rw [Array.getElem?_append_left hlt]; exact this
theorem Sat.ahead {w0 w : World} {A : HP} (h : Sat w0 w A) (n : Nat) : Sat w0 (Sort.ahead w n) A := ⟨h.os, h.tape, h.output, ⟨h.size.1, fun hd => Nat.le_trans (h.size.2 hd) (Nat.le_add_right _ _)⟩, h.mem⟩
theorem plc_get : ∀ (l : List Pl) (j : Nat), j < l.length * 2 → (l.flatMap plc)[j]? = some ((plc l[j / 2]!)[j % 2]!)
  | [], j, h => by simp at h
  | x :: l, 0, _ => by simp [plc]
  | x :: l, 1, _ => by simp [plc]
  | x :: l, j + 2, h => by
    have hj : j < l.length * 2 := by simp at h; omega
    have h1 : (j + 2) / 2 = j / 2 + 1 := by omega
    have h2 : (j + 2) % 2 = j % 2 := by omega
    rw [h1, h2]
    have := plc_get l j hj
    simp only [List.flatMap_cons, plc, List.cons_append, List.nil_append, List.getElem?_cons_succ]
    rw [show (x :: l)[j / 2 + 1]! = l[j / 2]! from by simp]
    exact this
theorem flatP (l : List Pl) : flatK plc 2 l.toArray = (l.flatMap plc).toArray := by
  apply Array.ext_getElem?
  intro j
  have hlen : (l.flatMap plc).length = l.length * 2 := flat_len (cells := plc) (fun _ => rfl) l
  by_cases hj : j < l.length * 2
  · have h1 : j < (flatK plc 2 l.toArray).size := by simpa using hj
    rw [Array.getElem?_eq_getElem h1, ← getElem!_pos _ j h1, get_flatK _ _ _ _ (by simpa using hj)]
    rw [List.getElem?_toArray, plc_get l j hj]
    simp
  · rw [Array.getElem?_eq_none (by simp; omega), List.getElem?_toArray, List.getElem?_eq_none (by omega)]
def pleq (x y : Pl) : Bool := !decide (y.1 < x.1 ∨ (y.1 = x.1 ∧ y.2 < x.2))
def psort (l : List Pl) : List Pl := l.mergeSort pleq
theorem pleq_trans (a b c : Pl) (h1 : pleq a b = true) (h2 : pleq b c = true) : pleq a c = true := by
  simp only [pleq, Bool.not_eq_true', decide_eq_false_iff_not] at *; omega
theorem pleq_total (a b : Pl) : (pleq a b || pleq b a) = true := by
  simp only [pleq, Bool.or_eq_true, Bool.not_eq_true', decide_eq_false_iff_not]; omega
theorem pleq_anti (a b : Pl) (h1 : pleq a b = true) (h2 : pleq b a = true) : a = b := by
  obtain ⟨a1, a2⟩ := a
  obtain ⟨b1, b2⟩ := b
  simp only [pleq, Bool.not_eq_true', decide_eq_false_iff_not] at h1 h2
  simp only [Prod.mk.injEq]; omega
theorem psort_perm (l : List Pl) : (psort l).Perm l := List.mergeSort_perm l pleq
theorem psort_sorted (l : List Pl) : (psort l).Pairwise (fun a b => pleq a b = true) := List.pairwise_mergeSort pleq_trans pleq_total l
theorem psort_eq {l m : List Pl} (hp : m.Perm l) (hs : m.Pairwise (fun a b => pleq a b = true)) : m = psort l :=
  List.Perm.eq_of_pairwise (le := fun a b => pleq a b = true) (fun a b _ _ h1 h2 => pleq_anti a b h1 h2) hs (psort_sorted l) (hp.trans (psort_perm l).symm)
theorem sorted_in {l : List Pl} {d : Array Pl} (hp : PermIn 0 l.toArray.size l.toArray d) (hs : SortedIn (ltOf cmpP) 0 l.toArray.size d) : d.toList = psort l := by
  obtain ⟨h1, _, h3⟩ := hp
  have hsz : d.size = l.length := by simpa using h1
  have e1 : d.extract 0 l.toArray.size = d := by rw [← h1]; simp
  have e2 : l.toArray.extract 0 l.toArray.size = l.toArray := by simp
  rw [e1, e2] at h3
  refine psort_eq (by simpa using h3) ?_
  rw [List.pairwise_iff_getElem]
  intro i j hi hj hij
  have h4 := hs i j (Nat.zero_le _) hij (by simp at hj ⊢; omega)
  rw [ltP] at h4
  have hi' : i < d.size := by simpa using hi
  have hj' : j < d.size := by simpa using hj
  rw [getElem!_pos d i hi', getElem!_pos d j hj'] at h4
  unfold pleq
  simp only [Array.getElem_toList]
  rw [h4]; rfl
theorem take_len {α : Type} {l : List α} {n : Nat} {m : List α} (h : l.take n = m) (hl : m.length = n) : ∀ j, j < n → l[j]? = m[j]? := fun j hj => by
  rw [← h, List.getElem?_take, if_pos hj]
theorem sortS (H : HP) (a : Option Addr) (l : List Pl) (cap : Nat) (hn : l = [] → a = none) (hl : l.length ≤ 1000000) :
    Spec Tryz.prog 112 [.slice a l.length cap, .func (.func 89) #[] #[]] (ow 135 2 a l.length cap (l.flatMap plc) * H) (X := Unit) (fun _ => .tuple #[]) (fun _ => True) (fun _ => ow 135 2 a l.length cap ((psort l).flatMap plc) * H) := by
  intro w0 w F s
  rw [sep_assoc] at s
  obtain ⟨h1, h2, h3, ⟨hc, sF⟩ | ⟨g, cur, rfl, hcur, ht, sg⟩⟩ := ow_cases s
  · have hl0 : l = [] := List.eq_nil_of_length_eq_zero (by omega)
    subst hl0
    have ha := hn rfl
    subst ha; subst hc
    refine (sortN (.func (.func 89) #[] #[]) w0 w (ow 135 2 none 0 0 [] * (H * F)) (by rw [one_sep]; exact s)).mono ?_
    rintro e w' ⟨_, he, _, s'⟩
    rw [one_sep] at s'
    have hp0 : psort [] = [] := by simp [psort]
    exact ⟨(), he, trivial, by rw [sep_assoc, hp0]; exact s'⟩
  · have hb : w.heap[g]? = some (.cells cur.toArray 135 (0, 0)) := sg.blk
    have hg : g < w.heap.size := (Array.getElem?_eq_some_iff.1 hb).1
    have hlen : (l.flatMap plc).length = l.length * 2 := h1
    have hget := take_len ht hlen
    have hH : HoldsK plc 2 w g 0 l.toArray := by
      intro j hj
      have hj2 : j < l.length * 2 := by simpa using hj
      refine ⟨?_, ?_⟩
      · rw [flatP]
        unfold World.cell?
        rw [hb]
        simp only [Nat.zero_add]
        have e := hget j hj2
        rw [show cur.toArray[j]? = cur[j]? by simp, e]
        have hj3 : j < (l.flatMap plc).length := by omega
        rw [List.getElem?_eq_getElem hj3]
        simp only [id, Option.some.injEq]
        rw [getElem!_pos _ j (by simpa using hj3)]
        simp
      · unfold World.frozen?
        rw [hb]
        simp
    have eg : ∀ args w, (callFunc 89 args).run Tryz.prog w = .ok (.enter 89 args) w := fun args w => run_call args w
    have hcon := AnyQ.slices_SortFunc Tryz.sortP 2 Tryz.isAgg135 Tryz.sizeOf135 plc (fun _ => rfl) (fun x v hv => by simp [plc] at hv; rcases hv with rfl | rfl <;> rfl) cmpP swoP 89 #[] g 0 cap l.toArray w eg (cmpLays g 0 l.toArray.size w) hH hg (by simp; omega)
    change Calls Tryz.prog 112 #[.slice (some ⟨g, 0, none⟩) l.length cap, _] w _ at hcon
    refine hcon.mono ?_
    rintro e w' ⟨rfl, d', n, os, hp, hs, rfl⟩
    have hd := sorted_in hp hs
    have hsz : d'.size = l.length := by simpa using hp.1
    refine ⟨(), rfl, trivial, ?_⟩
    unfold sortWorldK
    refine Sat.grow ?_ os
    rw [sep_assoc]
    have hdl : d' = (psort l).toArray := by rw [← hd]
    have hpl : (psort l).length = l.length := by rw [← hd]; simpa using hsz
    have hpf : ((psort l).flatMap plc).length = l.length * 2 := by rw [flat_len (cells := plc) (sz := 2) (fun _ => rfl), hpl]
    have hcl : (putCells id 0 (flatK plc 2 d') cur.toArray) = (((psort l).flatMap plc) ++ cur.drop (l.length * 2)).toArray := by
      rw [hdl, flatP]
      apply Array.ext_getElem?
      intro j
      unfold putCells
      rw [Array.getElem?_mapIdx]
      simp only [List.getElem?_toArray, List.getElem?_append, hpf]
      by_cases hj : j < l.length * 2
      · have hj3 : j < ((psort l).flatMap plc).length := by omega
        have hj4 : j < cur.length := by rw [hcur]; have := Nat.mul_le_mul_right 2 h2; omega
        rw [if_pos hj]
        simp [hj3, hj4, hpf, hj]
      · rw [if_neg hj]
        simp only [List.getElem?_toArray, List.getElem?_drop, hpf, List.size_toArray]
        rw [show l.length * 2 + (j - l.length * 2) = j by omega]
        cases h5 : cur[j]? with
        | none => rfl
        | some v => simp [hj]
    refine ow_mk (g := g) (cur := ((psort l).flatMap plc) ++ cur.drop (l.length * 2)) hpf h2 h3 ?_ ?_ ?_
    · rw [List.length_append, hpf, List.length_drop, hcur]; have := Nat.mul_le_mul_right 2 h2; omega
    · rw [List.take_append_of_le_length (by omega), List.take_of_length_le (by omega)]
    · refine Sat.setBlock (w := Sort.ahead w n) (o := .cells cur.toArray 135 (0, 0)) (sg.ahead n) rfl rfl rfl ?_ ?_ ?_ (Nat.le_refl _)
      · exact size_putRow ..
      · show ((Sort.ahead w n).heap.modify g _)[g]? = _
        rw [Array.getElem?_modify]
        simp only [if_true]
        show Option.map _ w.heap[g]? = _
        rw [hb, ← hcl]
        rfl
      · intro c hc
        show ((Sort.ahead w n).heap.modify g _)[c]? = _
        rw [Array.getElem?_modify, if_neg (Ne.symm hc)]
end Go.Proofs.YtcelailgedndnaaGreatS
namespace Go.Proofs.YtcelailgedndnaaGreatS
instance dr0 : DR := ⟨false⟩
end Go.Proofs.YtcelailgedndnaaGreatS
namespace Go.Proofs.YtcelailgedndnaaGreatS
open Go.RowKit Go.Sort Go.Shelf Go.Lib
set_option linter.unusedVariables false
set_option linter.unusedSimpArgs false
theorem eqP0 (d : Nat) (w : World) (x y : Pl) : (Op.equalIn (d + 2) 135 (.agg (plc x).toArray) (.agg (plc y).toArray)).run Tryz.prog w = .ok (x.1 == y.1 && (x.2 == y.2)) w := by
  refine eqA_of Tryz.underlying135 (by kernel_rfl) ?_
  refine eqf_cons (by rfl) (by go_simp; rfl) (by go_simp; rfl) (by go_simp) ?_
  exact eqf_last (by rfl) (by go_simp; rfl) (by go_simp; rfl) (by go_simp)
theorem eqP (w : World) (x y : Pl) : (Op.equal 135 (.agg (plc x).toArray) (.agg (plc y).toArray)).run Tryz.prog w = .ok (decide (x = y)) w := by
  have h : (x.1 == y.1 && (x.2 == y.2)) = decide (x = y) := by
    obtain ⟨a, b⟩ := x
    obtain ⟨c, d⟩ := y
    by_cases h1 : a = c <;> by_cases h2 : b = d <;> simp [h1, h2]
  rw [← h]
  exact eqP0 9998 w x y
theorem checkP (em : Bool) (w : World) (p : Pl) : (Instr.checkKey em 10000 135 (.agg (plc p).toArray)).run Tryz.prog w = .ok () w := by
  have hin : ∀ (n : Nat) (a : Int), (Instr.checkKey em (n + 1) 3 (.int .i64 a)).run Tryz.prog w = .ok () w := fun n a => by
    unfold Instr.checkKey
    simp [run_underlying Tryz.underlying3]
  show (Instr.checkKey em (9998 + 1 + 1) 135 (.agg #[.int .i64 p.1, .int .i64 p.2])).run Tryz.prog w = .ok () w
  rw [Instr.checkKey, Sem.run_bind, run_underlying Tryz.underlying135]
  simp only [Result.andThen]
  generalize 9998 = n at *
  go_simp
abbrev Me : Type := Pl × Value × Nat
def me (x : Me) : MapEntry := { key := .agg (plc x.1).toArray, val := x.2.1, born := x.2.2 }
def fi : List Me → Pl → Nat → Option (Nat × Value)
  | [], _, _ => none
  | x :: E, p, i => if p = x.1 then some (i, x.2.1) else fi E p (i + 1)
theorem findAskP (w : World) (p : Pl) : ∀ (E : List Me) (i : Nat), (Instr.findAsking 135 (.agg (plc p).toArray) (E.map me) i).run Tryz.prog w = .ok (fi E p i) w
  | [], i => rfl
  | x :: E, i => by
    have he := eqP w p x.1
    rw [List.map_cons, Instr.findAsking, Sem.run_bind]
    rw [show (me x).key = .agg (plc x.1).toArray from rfl, he]
    simp only [Result.andThen]
    by_cases h : p = x.1
    · rw [decide_eq_true h]
      simp [me, fi, h]
    · rw [decide_eq_false h]
      simp only [fi, if_neg h, Bool.false_eq_true, if_false]
      exact findAskP w p E (i + 1)
theorem findP (w : World) (p : Pl) (E : List Me) : (Instr.findKey 135 (.agg (plc p).toArray) (E.map me)).run Tryz.prog w = .ok (fi E p 0) w := by
  unfold Instr.findKey
  rw [Sem.run_bind, run_underlying Tryz.underlying135]
  simp only [Result.andThen]
  cases E with
  | nil => rfl
  | cons x E => exact findAskP w p (x :: E) 0
theorem staysP (w : World) (p : Pl) : (Instr.keyThatStays (.agg (plc p).toArray) (.agg (plc p).toArray)).run Tryz.prog w = .ok (.agg (plc p).toArray) w := by
  have h : Instr.sameBits 10000 (.agg (plc p).toArray) (.agg (plc p).toArray) = true := by
    show Instr.sameBits (9999 + 1) (.agg (plc p).toArray) (.agg (plc p).toArray) = true
    simp [Instr.sameBits, plc]
  unfold Instr.keyThatStays
  rw [if_pos h]; rfl
abbrev Mm : Type := List (Pl × Value)
def mget : Mm → Pl → Option Value
  | [], _ => none
  | x :: M, p => if p = x.1 then some x.2 else mget M p
def mset : Mm → Pl → Value → Mm
  | [], p, v => [(p, v)]
  | x :: M, p, v => if p = x.1 then (p, v) :: M else x :: mset M p v
def mdel : Mm → Pl → Mm
  | [], _ => []
  | x :: M, p => if p = x.1 then M else x :: mdel M p
def m2 (x : Me) : Pl × Value := (x.1, x.2.1)
structure okE (E : List Me) (c : Nat) : Prop where
  keys : (E.map (·.1)).Nodup
  st : (E.map (·.2.2)).Nodup
  lt : ∀ x ∈ E, x.2.2 < c
theorem fi_get : ∀ (E : List Me) (p : Pl) (i : Nat), (fi E p i).map (·.2) = mget (E.map m2) p
  | [], _, _ => rfl
  | x :: E, p, i => by
    simp only [fi, List.map_cons, mget, m2]
    by_cases h : p = x.1
    · simp [h]
    · simp only [if_neg h]; exact fi_get E p (i + 1)
theorem fi_no : ∀ (E : List Me) (p : Pl) (i : Nat), fi E p i = none → p ∉ E.map (·.1) ∧ (∀ v, mset (E.map m2) p v = E.map m2 ++ [(p, v)]) ∧ mdel (E.map m2) p = E.map m2
  | [], _, _, _ => ⟨by simp, fun v => rfl, rfl⟩
  | x :: E, p, i, h => by
    unfold fi at h
    by_cases h1 : p = x.1
    · rw [if_pos h1] at h; cases h
    · rw [if_neg h1] at h
      obtain ⟨h2, h3, h4⟩ := fi_no E p (i + 1) h
      refine ⟨?_, fun v => ?_, ?_⟩
      · rw [List.map_cons, List.mem_cons]; rintro (h5 | h5); exact h1 h5; exact h2 h5
      · simp only [List.map_cons, mset, m2]; rw [if_neg h1, h3 v]; rfl
      · simp only [List.map_cons, mdel, m2]; rw [if_neg h1, h4]
theorem fi_yes : ∀ (E : List Me) (p : Pl) (i k : Nat) (u : Value), fi E p i = some (k, u) → ∃ j o, k = i + j ∧ E[j]? = some (p, u, o) ∧ (∀ v, mset (E.map m2) p v = (E.set j (p, v, o)).map m2) ∧ mdel (E.map m2) p = (E.eraseIdx j).map m2
  | [], _, _, _, _, h => by cases h
  | x :: E, p, i, k, u, h => by
    unfold fi at h
    by_cases h1 : p = x.1
    · rw [if_pos h1] at h
      obtain ⟨rfl, rfl⟩ := Prod.mk.inj (Option.some.inj h)
      refine ⟨0, x.2.2, rfl, by simp [h1], fun v => ?_, ?_⟩
      · simp [mset, m2, h1]
      · simp [mdel, m2, h1]
    · rw [if_neg h1] at h
      obtain ⟨j, o, h2, h3, h4, h5⟩ := fi_yes E p (i + 1) k u h
      refine ⟨j + 1, o, by omega, by simpa using h3, fun v => ?_, ?_⟩
      · simp only [List.map_cons, mset, List.set_cons_succ]; rw [show (m2 x).1 = x.1 from rfl, if_neg h1, h4 v]
      · simp only [List.map_cons, mdel, List.eraseIdx_cons_succ]; rw [show (m2 x).1 = x.1 from rfl, if_neg h1, h5]
end Go.Proofs.YtcelailgedndnaaGreatS
namespace Go.Proofs.YtcelailgedndnaaGreatS
open Go.RowKit Go.Sort Go.Shelf Go.Lib
set_option linter.unusedVariables false
set_option linter.unusedSimpArgs false
variable {n : Nat} {ops : Array Oper} {rest : List Oper} {e : Env} {H : HP} {Φ : Post} {d : Nat} {ty : TypeId} {ps : String} {af : Array Edge}
def pm (b : Nat) (M : Mm) : HP := exh fun y : List Me × Nat => pu (okE y.1 y.2 ∧ y.1.map m2 = M) * blk true b (.map (y.1.map me).toArray y.2)
theorem pm_open {w0 w : World} {F : HP} {b : Nat} {M : Mm} (s : Sat w0 w (pm b M * F)) : ∃ E c, okE E c ∧ E.map m2 = M ∧ w.heap[b]? = some (.map (E.map me).toArray c) ∧ Sat w0 w (blk true b (.map (E.map me).toArray c) * F) := by
  obtain ⟨⟨E, c⟩, s⟩ := s.ex
  rw [sep_assoc] at s
  obtain ⟨h1, h2⟩ := s.pure
  exact ⟨E, c, h1, h2, s.drop.blk, s.drop⟩
theorem pm_mk {w0 w : World} {F : HP} {b : Nat} {M : Mm} {E : List Me} {c : Nat} (h1 : okE E c) (h2 : E.map m2 = M) (s : Sat w0 w (blk true b (.map (E.map me).toArray c) * F)) : Sat w0 w (pm b M * F) :=
  Sat.ofEx (E, c) (by rw [sep_assoc]; exact Sat.ofPure ⟨h1, h2⟩ s)
theorem set_map {w0 w : World} {F : HP} {b : Nat} {es es' : Array MapEntry} {c c' : Nat} (s : Sat w0 w (blk true b (.map es c) * F)) : Sat w0 { w with heap := w.heap.setIfInBounds b (.map es' c') } (blk true b (.map es' c') * F) :=
  Sat.setBlock (w' := { w with heap := w.heap.setIfInBounds b (.map es' c') }) s rfl rfl rfl (by simp) ((MapKept.heap_set s.blk).1) (fun c hc => (MapKept.heap_set s.blk).2 c hc) (Nat.le_refl _)
abbrev z175 : Value := .agg #[.int .i64 0, .int .i64 0, .int .i64 0, .int .u64 0]
theorem emptyP (E : List Me) : (E.map me).toArray.isEmpty = E.isEmpty := by cases E <;> rfl
theorem o_lookup1 {x y : Operand} {b : Nat} {M : Mm} {p : Pl} {R : HP} (hd : d < n) (hx : ev e x = .map (some b)) (hy : ev e y = .agg (plc p).toArray) [tk : Take (pm b M) H R] {r : Option Value} (hr : mget M p = r)
    (c : Ops Tryz.prog n ops rest (put e d (r.getD z175)) H Φ) : Ops Tryz.prog n ops (⟨some d, .lookup 112 x y false, ty, ps, af, none⟩ :: rest) e H Φ :=
  ops_step rfl hd (T.ofV (v := Next.value (r.getD z175)) (fun w0 w F s => by
    rw [tk.eq, sep_assoc] at s
    obtain ⟨E, c, h1, h2, hb, _⟩ := pm_open s
    have hg : (fi E p 0).map (·.2) = r := by rw [fi_get, h2, hr]
    simp only [execOp, hx, hy]
    have hf := findP w p E
    have hc := fun em => checkP em w p
    simp [Instr.lookup, run_underlying Tryz.underlying112, MapKept.run_getObj_map hb, hc, hf, Result.andThen]
    subst hg
    cases fi E p 0 with
    | none => simp [Tryz.zeroValue175, Result.andThen]
    | some q => simp [Result.andThen]) c)
theorem o_lookup2 {x y : Operand} {b : Nat} {M : Mm} {p : Pl} {R : HP} (hd : d < n) (hx : ev e x = .map (some b)) (hy : ev e y = .agg (plc p).toArray) [tk : Take (pm b M) H R] {r : Option Value} (hr : mget M p = r)
    (c : Ops Tryz.prog n ops rest (put e d (.tuple (List.toArray [r.getD z175, .bool r.isSome]))) H Φ) : Ops Tryz.prog n ops (⟨some d, .lookup 112 x y true, ty, ps, af, none⟩ :: rest) e H Φ :=
  ops_step rfl hd (T.ofV (v := Next.value (.tuple (List.toArray [r.getD z175, .bool r.isSome]))) (fun w0 w F s => by
    rw [tk.eq, sep_assoc] at s
    obtain ⟨E, c, h1, h2, hb, _⟩ := pm_open s
    have hg : (fi E p 0).map (·.2) = r := by rw [fi_get, h2, hr]
    simp only [execOp, hx, hy]
    have hf := findP w p E
    have hc := fun em => checkP em w p
    simp [Instr.lookup, run_underlying Tryz.underlying112, MapKept.run_getObj_map hb, hc, hf, Result.andThen]
    subst hg
    cases fi E p 0 with
    | none => simp [Tryz.zeroValue175, Result.andThen]
    | some q => simp [Result.andThen]) c)
theorem o_pmLen {x : Operand} {b : Nat} {M : Mm} {R : HP} {u : Array TypeId} (hd : d < n) (hx : ev e x = .map (some b)) (hu : u = #[112]) [tk : Take (pm b M) H R]
    (c : Ops Tryz.prog n ops rest (put e d (.int .i64 (M.length : Int))) H Φ) : Ops Tryz.prog n ops (⟨some d, .call ⟨.builtin .len, #[x], u⟩, ty, ps, af, none⟩ :: rest) e H Φ :=
  ops_step rfl hd (T.ofV (v := Next.value (.int .i64 (M.length : Int))) (fun w0 w F s => by
    rw [tk.eq, sep_assoc] at s
    obtain ⟨E, c, h1, h2, hb, _⟩ := pm_open s
    subst hu
    subst h2
    simp [execOp, resolve, invoke, builtin, hx, Builtin.len_, run_underlying Tryz.underlying112, MapKept.run_getObj_map hb, goInt]) c)
theorem o_pmMake (hd : d < n) (c : ∀ b, Ops Tryz.prog n ops rest (put e d (.map (some b))) (pm b [] * H) Φ) : Ops Tryz.prog n ops (⟨some d, .makeMap 112 none, ty, ps, af, none⟩ :: rest) e H Φ :=
  ops_step rfl hd fun w0 w F s => by
    refine ⟨Next.value (.map (some w.heap.size)), w.alloc (.map #[] 0), pm w.heap.size [] * H, ?_, c _, ?_⟩
    · simp only [execOp, Option.map_none]; rfl
    · have := s.alloc (.map #[] 0)
      rw [sep_assoc]
      exact pm_mk (E := []) (c := 0) ⟨by simp, by simp, by simp⟩ rfl this
theorem okE_set {E : List Me} {c j : Nat} {p : Pl} {u v : Value} {o : Nat} (h : okE E c) (hj : E[j]? = some (p, u, o)) : okE (E.set j (p, v, o)) c := by
  have hl : j < E.length := (List.getElem?_eq_some_iff.1 hj).1
  have hE : E[j] = (p, u, o) := (List.getElem?_eq_some_iff.1 hj).2
  have e1 : (E.set j (p, v, o)).map (·.1) = E.map (·.1) := by
    rw [List.map_set, show (p, v, o).1 = (E.map (·.1))[j]'(by simpa using hl) from by simp [hE], List.set_getElem_self]
  have e2 : (E.set j (p, v, o)).map (·.2.2) = E.map (·.2.2) := by
    rw [List.map_set, show (p, v, o).2.2 = (E.map (·.2.2))[j]'(by simpa using hl) from by simp [hE], List.set_getElem_self]
  refine ⟨by rw [e1]; exact h.keys, by rw [e2]; exact h.st, fun x hx => ?_⟩
  rcases List.mem_or_eq_of_mem_set hx with hx | rfl
  · exact h.lt x hx
  · exact h.lt (p, u, o) (List.mem_of_getElem? hj)
theorem okE_del {E : List Me} {c : Nat} (h : okE E c) (j : Nat) : okE (E.eraseIdx j) c :=
  ⟨h.keys.sublist ((List.eraseIdx_sublist E j).map _), h.st.sublist ((List.eraseIdx_sublist E j).map _), fun x hx => h.lt x ((List.eraseIdx_sublist E j).subset hx)⟩
theorem okE_add {E : List Me} {c : Nat} (h : okE E c) {p : Pl} (hp : p ∉ E.map (·.1)) (v : Value) : okE (E ++ [(p, v, c)]) (c + 1) := by
  refine ⟨?_, ?_, fun x hx => ?_⟩
  · rw [List.map_append, List.nodup_append]
    refine ⟨h.keys, by simp, fun a ha b hb => ?_⟩
    obtain rfl : b = p := by simpa using hb
    rintro rfl; exact hp ha
  · rw [List.map_append, List.nodup_append]
    refine ⟨h.st, by simp, fun a ha b hb => ?_⟩
    obtain rfl : b = c := by simpa using hb
    rintro rfl
    obtain ⟨x, hx, hxe⟩ := List.mem_map.1 ha
    have := h.lt x hx; omega
  · rcases List.mem_append.1 hx with hx | hx
    · have := h.lt x hx; omega
    · obtain rfl : x = (p, v, c) := by simpa using hx
      exact Nat.lt_succ_self _
theorem modify_me {E : List Me} {j : Nat} {p : Pl} {u v : Value} {o : Nat} (hj : E[j]? = some (p, u, o)) : (E.map me).toArray.modify j (fun e => { e with key := .agg (plc p).toArray, val := v }) = ((E.set j (p, v, o)).map me).toArray := by
  have hl : j < E.length := (List.getElem?_eq_some_iff.1 hj).1
  have hE : E[j] = (p, u, o) := (List.getElem?_eq_some_iff.1 hj).2
  apply Array.ext_getElem?
  intro i
  rw [Array.getElem?_modify, List.getElem?_toArray, List.getElem?_toArray, List.getElem?_map, List.getElem?_map, List.getElem?_set]
  by_cases h : j = i
  · subst h; simp [hl, hE, me]
  · simp [h]
theorem o_pmPut {x y z : Operand} {b : Nat} {M : Mm} {p : Pl} {v : Value} {R : HP} (hx : ev e x = .map (some b)) (hy : ev e y = .agg (plc p).toArray) (hz : ev e z = v) [tk : Take (pm b M) H R]
    (c : Ops Tryz.prog n ops rest e (pm b (mset M p v) * R) Φ) : Ops Tryz.prog n ops (⟨none, .mapUpdate 112 x y z, ty, ps, af, none⟩ :: rest) e H Φ :=
  ops_step rfl trivial fun w0 w F s => by
    rw [tk.eq, sep_assoc] at s
    obtain ⟨E, k, h1, h2, hb, sb⟩ := pm_open s
    have hf := findP w p E
    have hc := fun em => checkP em w p
    subst h2
    cases hfi : fi E p 0 with
    | none =>
      obtain ⟨g1, g2, g3⟩ := fi_no E p 0 hfi
      refine ⟨.skip, { w with heap := w.heap.setIfInBounds b (.map ((E ++ [(p, v, k)]).map me).toArray (k + 1)) }, pm b (mset (E.map m2) p v) * R, ?_, c, ?_⟩
      · rw [hfi] at hf
        simp only [execOp, hx, hy, hz]
        simp [Instr.mapUpdate, run_underlying Tryz.underlying112, MapKept.run_getObj_map hb, hc, hf, MapKept.run_setObj_map _ hb, Result.andThen, me]
      · rw [sep_assoc]
        exact pm_mk (okE_add h1 g1 v) (by rw [g2 v]; simp [m2]) (set_map sb)
    | some q =>
      obtain ⟨i, u⟩ := q
      obtain ⟨j, o, rfl, g1, g2, g3⟩ := fi_yes E p 0 i u hfi
      rw [Nat.zero_add] at hfi
      refine ⟨.skip, { w with heap := w.heap.setIfInBounds b (.map ((E.set j (p, v, o)).map me).toArray k) }, pm b (mset (E.map m2) p v) * R, ?_, c, ?_⟩
      · rw [hfi] at hf
        have hk : (Instr.keyThatStays (.agg (plc p).toArray) (.agg (plc p).toArray)).run Tryz.prog w = .ok (.agg (plc p).toArray) w := staysP w p
        rw [← modify_me (v := v) g1]
        simp only [execOp, hx, hy, hz]
        simp [Instr.mapUpdate, run_underlying Tryz.underlying112, MapKept.run_getObj_map hb, hc, hf, g1, me, hk, MapKept.run_setObj_map _ hb, Result.andThen]
      · rw [sep_assoc]
        exact pm_mk (okE_set h1 g1) (g2 v).symm (set_map sb)
theorem erase_me : ∀ (E : List Me) (j : Nat), (E.map me).eraseIdx j = (E.eraseIdx j).map me
  | [], _ => rfl
  | x :: E, 0 => rfl
  | x :: E, j + 1 => by simp [erase_me E j]
theorem o_pmDel {x y : Operand} {b : Nat} {M : Mm} {p : Pl} {R : HP} {u : Array TypeId} (hx : ev e x = .map (some b)) (hy : ev e y = .agg (plc p).toArray) (hu : u = #[112, 135]) [tk : Take (pm b M) H R]
    (c : Ops Tryz.prog n ops rest e (pm b (mdel M p) * R) Φ) : Ops Tryz.prog n ops (⟨none, .call ⟨.builtin .delete, #[x, y], u⟩, ty, ps, af, none⟩ :: rest) e H Φ :=
  ops_step rfl trivial fun w0 w F s => by
    rw [tk.eq, sep_assoc] at s
    obtain ⟨E, k, h1, h2, hb, sb⟩ := pm_open s
    have hf := findP w p E
    have hc := fun em => checkP em w p
    subst h2
    subst hu
    cases hfi : fi E p 0 with
    | none =>
      obtain ⟨g1, g2, g3⟩ := fi_no E p 0 hfi
      refine ⟨.value (.tuple #[]), { w with heap := w.heap.setIfInBounds b (.map (E.map me).toArray k) }, pm b (mdel (E.map m2) p) * R, ?_, c, ?_⟩
      · rw [hfi] at hf
        simp [execOp, resolve, invoke, builtin, hx, hy, Builtin.delete_, run_underlying Tryz.underlying112, MapKept.run_getObj_map hb, hc, hf, MapKept.run_setObj_map _ hb, Result.andThen]
      · rw [sep_assoc, g3]
        exact pm_mk h1 rfl (set_map sb)
    | some q =>
      obtain ⟨i, u⟩ := q
      obtain ⟨j, o, rfl, g1, g2, g3⟩ := fi_yes E p 0 i u hfi
      rw [Nat.zero_add] at hfi
      have hj : j < E.length := (List.getElem?_eq_some_iff.1 g1).1
      refine ⟨.value (.tuple #[]), { w with heap := w.heap.setIfInBounds b (.map ((E.eraseIdx j).map me).toArray k) }, pm b (mdel (E.map m2) p) * R, ?_, c, ?_⟩
      · rw [hfi] at hf
        simp only [execOp, resolve, invoke, builtin]
        simp [hx, hy, Builtin.delete_, run_underlying Tryz.underlying112, MapKept.run_getObj_map hb, hc, hf, hj, erase_me, MapKept.run_setObj_map _ hb, Result.andThen]
      · rw [sep_assoc, g3]
        exact pm_mk (okE_del h1 j) rfl (set_map sb)
end Go.Proofs.YtcelailgedndnaaGreatS
namespace Go.Proofs.YtcelailgedndnaaGreatS
open Go.RowKit Go.Sort Go.Shelf Go.Lib
open Go.ChangeMaps (setBlock)
set_option linter.unusedVariables false
set_option linter.unusedSimpArgs false
section
variable {F : Fence} {n : Nat} {P : Program} {ops : Array Oper} {rest : List Oper} {o : Oper} {a : Go.Act} {Q : Exit → Go.Act → World → Prop} {w : World}
theorem wpListIn_range_raw (hg : o.guard = none) (m : Operand) (t : TypeId) (hop : o.op = Op.range t m) (k e : TypeId) (ht : P.underlying t = some (.map k e)) (b : Nat) (es : Array MapEntry) (clock : Nat)
    (hm : a.eval m = .map (some b)) (hb : w.heap[b]? = some (.map es clock))
    (hK : ∀ w', w' = w.alloc (.mapIter (some b) clock #[] clock) → wpListIn F n P ops Q rest (a.put o.dst (.pointer (some ⟨w.heap.size, 0, none⟩))) w') :
    wpListIn F n P ops Q (o :: rest) a w := by
  refine wpListIn_plain hg fun K' hK' => ?_
  have hrun := run_range_map w t k e b es clock ht hb
  unfold Oper.wpIn
  refine ⟨?_, ?_⟩
  · simp [Oper.about, hop]
  · rw [Oper.semAt_plain F _ _ (by rw [hop]; intro c hc'; cases hc')]
    simp [execOp, hop, hm, hrun, Result.andThen]
    exact hK' _ _ (hK _ rfl)
structure NextTo (w w' : World) (r b since clock : Nat) (seen' : Array Nat) : Prop where
  ex : ∃ w1, (w1 = w ∨ w1 = w.drew) ∧ w' = setBlock w1 r (.mapIter (some b) since seen' clock)
theorem wpListIn_next_raw (hg : o.guard = none) (it : Operand) (hop : o.op = Op.next it false) (b r since c0 : Nat) (seen : Array Nat) (es : Array MapEntry) (clock : Nat)
    (hit : a.eval it = .pointer (some ⟨r, 0, none⟩)) (hr : w.heap[r]? = some (.mapIter (some b) since seen c0)) (hb : w.heap[b]? = some (.map es clock)) (hold : ∀ x ∈ es.toList, x.born < since) (hsc : since ≤ c0)
    (hDone : (leftOf es seen).size = 0 → wpListIn F n P ops Q rest (a.put o.dst (.tuple #[.bool false])) w)
    (hMore : ∀ e ∈ (leftOf es seen).toList, ∀ w', NextTo w w' r b since clock (seen.push e.born) → wpListIn F n P ops Q rest (a.put o.dst (.tuple #[.bool true, e.key, e.val])) w') :
    wpListIn F n P ops Q (o :: rest) a w := by
  refine wpListIn_plain hg fun K' hK' => ?_
  unfold Oper.wpIn
  refine ⟨by simp [Oper.about, hop], ?_⟩
  rw [Oper.semAt_plain F _ _ (by rw [hop]; intro c hc'; cases hc')]
  rcases run_next_at (P := P) w o.type r b since c0 seen es clock hr hb hold hsc with ⟨h0, hrun⟩ | ⟨e, he, w1, hal, hrun⟩
  · simp [execOp, hop, hit, hrun, Result.andThen]
    exact hK' _ _ (hDone h0)
  · simp [execOp, hop, hit, hrun, Result.andThen]
    exact hK' _ _ (hMore e he _ ⟨w1, hal, rfl⟩)
end
def encP (x : Pl) : Value := .agg (plc x).toArray
theorem iter_grown {w w1 : World} {r b since clock : Nat} {seen seen' : Array Nat} {c0 : Nat} (hr : w.heap[r]? = some (.mapIter (some b) since seen c0)) (h : w1 = w ∨ w1 = w.drew) :
    w.grownBy (setBlock w1 r (.mapIter (some b) since seen' clock)) (some r) := by
  have hr1 : w1.heap[r]? = some (.mapIter (some b) since seen c0) := by rcases h with rfl | rfl <;> exact hr
  have hset := MapKept.heap_set (o' := .mapIter (some b) since seen' clock) hr1
  rcases h with rfl | rfl <;> exact ⟨rfl, rfl, rfl, by simp [setBlock], fun i _ hi => hset.2 i (fun e1 => hi (by rw [e1]))⟩
structure Rg (E T : List Me) (seen : Array Nat) (ss : List Pl) : Prop where
  sn : seen.toList = T.map (·.2.2)
  ss : ss = T.map (·.1)
  sub : ∀ x ∈ T, x ∈ E
  nd : T.Nodup
  cnt : T.length + (leftOf (E.map me).toArray seen).size ≤ E.length
theorem Rg.start (E : List Me) : Rg E [] #[] [] := ⟨rfl, rfl, by simp, by simp, by have := List.length_filter_le (fun e => true) (E.map me); simp [leftOf] at this ⊢; exact this⟩
theorem me_inj {x y : Me} (h : me x = me y) : x = y := by
  obtain ⟨⟨a, b⟩, v, o⟩ := x
  obtain ⟨⟨c, d⟩, u, q⟩ := y
  simp [me, plc] at h
  simp [h]
theorem Rg.step {E T : List Me} {seen : Array Nat} {ss : List Pl} {c : Nat} (hE : okE E c) (h : Rg E T seen ss) {en : MapEntry} (he : en ∈ (leftOf (E.map me).toArray seen).toList) :
    ∃ x, en = me x ∧ Rg E (T ++ [x]) (seen.push en.born) (ss ++ [x.1]) ∧ ss.length < E.length := by
  obtain ⟨hm, hs⟩ := mem_left he
  obtain ⟨x, hx, rfl⟩ := List.mem_map.1 (by simpa using hm : en ∈ E.map me)
  have hsh := left_shrinks (E.map me).toArray seen (me x) he
  have hc := h.cnt
  refine ⟨x, rfl, ⟨?_, ?_, ?_, ?_, ?_⟩, ?_⟩
  · rw [Array.toList_push, h.sn, List.map_append]; rfl
  · rw [h.ss, List.map_append]; rfl
  · intro y hy
    rcases List.mem_append.1 hy with hy | hy
    · exact h.sub y hy
    · obtain rfl : y = x := by simpa using hy
      exact hx
  · rw [List.nodup_append]
    refine ⟨h.nd, by simp, fun a ha b hb => ?_⟩
    obtain rfl : b = x := by simpa using hb
    rintro rfl
    have : a.2.2 ∈ seen.toList := by rw [h.sn]; exact List.mem_map.2 ⟨a, ha, rfl⟩
    rw [show (me a).born = a.2.2 from rfl] at hs
    simp at hs
    exact hs (by simpa using this)
  · rw [List.length_append, List.length_singleton]; omega
  · rw [h.ss, List.length_map]; omega
theorem nodup_of_map {α β : Type} (f : α → β) {l : List α} (h : (l.map f).Nodup) : l.Nodup := by
  rw [List.Nodup, List.pairwise_map] at h
  exact h.imp fun hne e => hne (by rw [e])
theorem Rg.done {E T : List Me} {seen : Array Nat} {ss : List Pl} {c : Nat} (hE : okE E c) (h : Rg E T seen ss) (h0 : (leftOf (E.map me).toArray seen).size = 0) : ss.Perm (E.map (·.1)) := by
  rw [h.ss]
  have hEn : E.Nodup := nodup_of_map _ hE.keys
  refine List.Perm.map _ ((List.perm_ext_iff_of_nodup h.nd hEn).2 fun x => ⟨h.sub x, fun hx => ?_⟩)
  have := all_seen (E.map me).toArray seen h0 (me x) (by show me x ∈ E.map me; exact List.mem_map_of_mem hx)
  have h1 : (me x).born ∈ seen.toList := by simpa using this
  rw [h.sn] at h1
  obtain ⟨y, hy, hye⟩ := List.mem_map.1 h1
  have hyx : y = x := by
    have h2 : y.2.2 = x.2.2 := hye
    obtain ⟨i, hi, rfl⟩ := List.getElem_of_mem (h.sub y hy)
    obtain ⟨j, hj, rfl⟩ := List.getElem_of_mem hx
    have hn := List.pairwise_iff_getElem.1 hE.st
    rcases Nat.lt_trichotomy i j with hij | rfl | hij
    · exact absurd (show (E.map (·.2.2))[i]'(by simpa using hi) = (E.map (·.2.2))[j]'(by simpa using hj) by rw [List.getElem_map, List.getElem_map]; exact h2) (hn i j (by simpa using hi) (by simpa using hj) hij)
    · rfl
    · exact absurd (show (E.map (·.2.2))[j]'(by simpa using hj) = (E.map (·.2.2))[i]'(by simpa using hi) by rw [List.getElem_map, List.getElem_map]; exact h2.symm) (hn j i (by simpa using hj) (by simpa using hi) hij)
  rwa [← hyx]
end Go.Proofs.YtcelailgedndnaaGreatS
namespace Go.Proofs.YtcelailgedndnaaGreatS
open Go.RowKit Go.Sort Go.Shelf Go.Lib
open Go.ChangeMaps (setBlock)
set_option linter.unusedVariables false
set_option linter.unusedSimpArgs false
set_option maxRecDepth 100000 in
set_option maxHeartbeats 4000000 in
theorem keys1_in (n : Nat) (hn : 1 ≤ n) (l Bm b : Nat) (E : List Me) (c : Nat) (hE : okE E c) (J Jx : List Pl → World → Prop)
    (hY : ∀ pre x W, J pre W → pre.length < E.length → YieldAt Fence.wide (n - 1) Tryz.prog l #[encP x] W fun e W' => (e = .returned (.bool true) ∧ J (pre ++ [x]) W' ∧ KeepsWalks W W') ∨ (e = .returned (.bool false) ∧ Jx (pre ++ [x]) W'))
    (W : World) (hJ : AbidesFrom W.heap.size J) (hm : W.cell? ⟨Bm, 0, none⟩ = some (.map (some b))) (hb : W.heap[b]? = some (.map (E.map me).toArray c)) (h0 : J [] W) :
    CallsIn Fence.wide n Tryz.prog 113 #[.func (.yield l) #[] #[], .pointer (some ⟨Bm, 0, none⟩)] W fun e W' => (∃ v, e = .returned v) ∧
      ((∃ ss : List Pl, ss.Perm (E.map (·.1)) ∧ J ss W') ∨ (∃ pre : List Pl, True ∧ Jx pre W')) := by
  refine callsIn_of_wp Tryz.func113 rfl trivial ?_ rfl
  simp only [Tryz.ntmps113, List.size_toArray, List.length_cons, List.length_nil, Nat.reduceAdd, Nat.reduceSub, Array.replicate_succ, Array.replicate_zero, List.push_toArray, List.append_toArray, List.nil_append, List.cons_append]
  have hbl : b < W.heap.size := (Array.getElem?_eq_some_iff.1 hb).1
  gi_wp2_with (first
    | (gi_at_range; refine wpListIn_range_raw rfl _ 112 rfl 135 175 Tryz.underlying112 b _ c rfl hb ?_; intro w0 hw0)
    | gi_in)
  go_frame
  gi_loopw [3] (fun _ wr => ∃ (seen : Array Nat) (T : List Me) (ss : List Pl) (c0 : Nat), wr.heap[W.heap.size]? = some (.mapIter (some b) c seen c0) ∧ wr.heap[b]? = some (.map (E.map me).toArray c) ∧ c ≤ c0 ∧ Rg E T seen ss ∧ J ss wr)
    (fun _ wr => wr.rangeLeft b W.heap.size)
  case atStart =>
    subst hw0
    refine ⟨#[], [], [], c, MapKept.heap_alloc W _ |>.1, ((MapKept.heap_alloc W _).2 b hbl).trans hb, Nat.le_refl _, Rg.start E, hJ [] W _ none h0 (World.grownBy_alloc W _ none) (fun r e => by cases e)⟩
  case round =>
    obtain ⟨seen, T, ss, c0, hr, hbr, hcc, hG, hJs⟩ := hrel
    gi_wp2_with (first
      | (gi_at_next; refine wpListIn_next_raw rfl _ rfl b W.heap.size c c0 seen _ c rfl hr hbr (fun x hx => by obtain ⟨y, hy, rfl⟩ := List.mem_map.1 (show x ∈ E.map me from hx); exact hE.lt y hy) hcc ?_ ?_)
      | gi_in)
    · intro hz
      gi_wp2
      go_end0
      exact ⟨⟨_, rfl⟩, .inl ⟨ss, hG.done hE (by rw [hz]; rfl), hJs⟩⟩
    · intro en hen w2 ⟨w1, hal, hw2⟩
      obtain ⟨x, rfl, hG2, hlt⟩ := hG.step hE (by simpa using hen)
      have hgr : wr.grownBy w2 (some W.heap.size) := by subst hw2; exact iter_grown hr hal
      have hJ2 : J ss w2 := hJ ss wr w2 (some W.heap.size) hJs hgr (fun r e => by cases e; exact ⟨Nat.le_refl _, _, hr, rfl⟩)
      have hr1 : w1.heap[W.heap.size]? = some (.mapIter (some b) c seen c0) := by rcases hal with rfl | rfl <;> exact hr
      have hb1 : w1.heap[b]? = some (.map (E.map me).toArray c) := by rcases hal with rfl | rfl <;> exact hbr
      have hset := MapKept.heap_set (o' := .mapIter (some b) c (seen.push (me x).born) c) hr1
      have hr2 : w2.heap[W.heap.size]? = some (.mapIter (some b) c (seen.push (me x).born) c) := by rw [hw2]; exact hset.1
      have hb2 : w2.heap[b]? = some (.map (E.map me).toArray c) := by rw [hw2]; exact (hset.2 b (by omega)).trans hb1
      have hent : (Instr.entry (.pointer (some ⟨W.heap.size, 0, none⟩))).run Tryz.prog w2 = .ok (.tuple #[.agg #[.int .i64 x.1.1, .int .i64 x.1.2], x.2.1]) w2 :=
        run_entry_at w2 W.heap.size b c seen _ c (me x) hr2 hb2 (List.mem_map_of_mem (hG2.sub x (by simp))) (by
          show ((E.map me).map (·.born)).Nodup
          rw [List.map_map]; exact hE.st)
      clear hw2 hset hal hr1 hb1
      have hlf : (leftOf (E.map me).toArray (seen.push (me x).born)).size < (leftOf (E.map me).toArray seen).size := left_shrinks _ _ _ (by simpa using hen)
      have hJ3 : J ss (w2.alloc (.cells #[.int .i64 x.1.1, .int .i64 x.1.2] 135)) := hJ ss w2 _ none hJ2 (World.grownBy_alloc w2 _ none) (fun r e => by cases e)
      obtain ⟨fn, tmps, assign, body, hy, hR⟩ := hY ss x.1 _ hJ3 hlt
      dsimp only [encP, plc] at hy
      gi_wp2
      refine hR.mono ?_
      rintro e W3 (⟨rfl, hJ4, hk3⟩ | ⟨rfl, hJx3⟩)
      · have hr3 : W3.heap[W.heap.size]? = some (.mapIter (some b) c (seen.push (me x).born) c) := hk3.same _ _ ((Below.heap_alloc w2 _ _ (Array.getElem?_eq_some_iff.1 hr2).1).trans hr2) rfl
        have hb3 : W3.heap[b]? = some (.map (E.map me).toArray c) := hk3.same _ _ ((Below.heap_alloc w2 _ _ (Array.getElem?_eq_some_iff.1 hb2).1).trans hb2) rfl
        gi_wp2
        go_roundw
        case rel => exact ⟨_, _, _, c, hr3, hb3, Nat.le_refl _, hG2, hJ4⟩
        case measure =>
          simp only [World.rangeLeft, hr3, hb3, hr, hbr]
          exact hlf
      · gi_wp2
        refine bodyPost_ret (results_none rfl _ _ _) rfl ?_
        exact ⟨⟨_, rfl⟩, .inr ⟨_, trivial, hJx3⟩⟩
end Go.Proofs.YtcelailgedndnaaGreatS
namespace Go.Proofs.YtcelailgedndnaaGreatS
open Go.RowKit Go.Sort Go.Shelf Go.Lib
set_option linter.unusedVariables false
set_option linter.unusedSimpArgs false
attribute [local go_sem] Oper.semAt_some
theorem keys_stops (n : Nat) (hn : 1 ≤ n) (Bm b : Nat) (E : List Me) (c : Nat) (hE : okE E c) (w : World) (hBm : Bm < w.heap.size) (hm : w.cell? ⟨Bm, 0, none⟩ = some (.map (some b))) (hb : w.heap[b]? = some (.map (E.map me).toArray c)) :
    SeqStops Fence.wide n Tryz.prog 113 #[.pointer (some ⟨Bm, 0, none⟩)] encP (fun ss => ss.Perm (E.map (·.1))) (fun _ => True) E.length w := fun l J Jx W hW hJ _ hY h0 => by
  have hbl : b < w.heap.size := (Array.getElem?_eq_some_iff.1 hb).1
  exact keys1_in n hn l Bm b E c hE J Jx hY W hJ ((hW.cell (p := ⟨Bm, 0, none⟩) hBm).trans hm) ((hW.block b hbl).trans hb) h0
theorem cell_two_new (w : World) (x y : Value) (t : TypeId) : ∀ j u, [x, y][j]? = some u → (w.alloc (.cells #[x, y] t)).cell? ((⟨w.heap.size, 0, none⟩ : Addr).add j) = some u := by
  intro j u hj
  have h : (w.alloc (.cells #[x, y] t)).heap[w.heap.size]? = some (.cells #[x, y] t) := World.alloc_heap_new w _
  match j, hj with
  | 0, hj =>
    simp at hj
    subst hj
    unfold World.cell?
    rw [show ((⟨w.heap.size, 0, none⟩ : Addr).add 0).block = w.heap.size from rfl, h]
    rfl
  | 1, hj =>
    simp at hj
    subst hj
    unfold World.cell?
    rw [show ((⟨w.heap.size, 0, none⟩ : Addr).add 1).block = w.heap.size from rfl, h]
    rfl
theorem info135 : (Tryz.prog.info? 135).map (fun i => (i.zero, i.size, i.bytes)) = some (some (.agg #[.int .i64 0, .int .i64 0]), 2, 16) := by kernel_rfl
set_option maxRecDepth 100000 in
set_option maxHeartbeats 4000000 in
theorem appendSeq_in (n : Nat) (hn : 3 ≤ n) (g : Nat) (lb : Array Value) (eg : ∀ args w, (callFunc g args).run Tryz.prog w = .ok (.enter g args) w) (S : List Pl → Prop) (N : Nat) (hN : N ≤ 1000000) (w : World) (hseq : SeqStops Fence.wide (n - 1) Tryz.prog g lb encP S (fun _ => True) N w) :
    CallsIn Fence.wide n Tryz.prog 127 #[.slice none 0 0, .func (.func g) #[] lb] w fun e w' => ∃ (v : Value) (ss : List Pl), e = .returned v ∧ S ss ∧ w'.ownsRow w.heap.size 135 2 v ss.length (ss.flatMap plc) ∧ (v = .slice none 0 0 ↔ ss = []) ∧ Below w.heap.size w w' := by
  have h1 : 1 ≤ n := by omega
  have h1' : 1 ≤ n - 1 - 1 := by omega
  obtain ⟨i0, hi, hz0, hz1, hz2⟩ := info_parts info135
  refine callsIn_of_wp_marks Tryz.func127 rfl trivial ?_ rfl
  simp only [Tryz.ntmps127, List.size_toArray, List.length_cons, List.length_nil, Nat.reduceAdd, Nat.reduceSub, Array.replicate_succ, Array.replicate_zero, List.push_toArray, List.append_toArray, List.nil_append, List.cons_append]
  gi_wp2
  have hsz : (w.alloc (.cells #[.slice none 0 0] 132)).heap.size = w.heap.size + 1 := by simp
  refine wpIn_rangeFunc_ownH (w0 := w) rfl h1 (gf := g) (lb := lb) rfl trivial eg hseq walksK_t (fun W l o o' h => walksK_b (w := w) W l o o' (by omega)) ((Below.refl _ w).alloc (Nat.le_refl _) _) (fun _ => rfl)
    (fun pre W => (∃ v, Boxed W w.heap.size 132 v ∧ W.ownsRow w.heap.size 135 2 v pre.length (pre.flatMap plc) ∧ (v = .slice none 0 0 ↔ pre = [])) ∧ Below w.heap.size w W)
    (fun _ _ _ => False)
    (OwnFrom.and (Own.from (holdsRow_own _ _ _ _ _ _ _ _) _) (ownFrom_below (Nat.le_refl _) (by simp)))
    (fun _ _ _ _ _ hs _ _ => hs)
    ⟨⟨_, Boxed.new w 132 _, ⟨rfl, .inl ⟨rfl, rfl⟩⟩, by simp⟩, (Below.refl _ w).alloc (Nat.le_refl _) _⟩
    (fun x a' W => ∃ Bx, w.heap.size < Bx ∧ W.heap[Bx]? = some (.cells #[.int .i64 x.1, .int .i64 x.2] 135 (0, 0)) ∧ a' = { tmps := #[.slice none 0 0, .func (.func g) #[] lb, .pointer (some ⟨w.heap.size, 0, none⟩), undef, .slice none 0 0, .pointer (some ⟨Bx, 0, none⟩), .func (.func g) #[] lb, encP x, undef, undef, undef, undef, undef], defers := [] })
    ?hax ?assign ?body ?done ?stop
  case hax =>
    rintro x a' _ A B row ⟨Bx, hBx, hb, ha⟩ hg hr
    refine ⟨Bx, hBx, (hg.block Bx (Array.getElem?_eq_some_iff.1 hb).1 (fun e => ?_)).trans hb, ha⟩
    obtain ⟨_, o, ho, hc⟩ := hr Bx e.symm
    rw [hb] at ho; cases ho; cases hc
  case assign =>
    rintro l pre x W K ⟨⟨v, hv, hrow, hnil⟩, hB⟩ hK
    have hBs := hB.size
    simp only [encP, plc]
    gi_wp2
    exact hK _ _ ((KeepsOthers.alloc _ _).from _) (KeepsOthers.alloc _ _).walks ⟨⟨v, hv.alloc _, hrow.alloc _, hnil⟩, hB.alloc hBs _⟩ ⟨W.heap.size, hv.lt, World.alloc_heap_new W _, rfl⟩
  case body =>
    rintro l pre x a' W hl ⟨r, hr⟩ ⟨⟨v, hv, hrow, hnil⟩, hB⟩ ⟨Bx, hBx, bX, rfl⟩ hlt
    have hc := hv.cell
    have hBs := hB.size
    have c0 : W.cell? ⟨Bx, 0, none⟩ = some (.int .i64 x.1) := by simp [World.cell?, bX]
    have c1 : W.cell? ⟨Bx, 1, none⟩ = some (.int .i64 x.2) := by simp [World.cell?, bX]
    gi_wp2_with (gi_at_builtin; refine wpListIn_append_own _ rfl _ _ 132 rfl w.heap.size 135 i0 _ 2 16 Tryz.underlying132 hi hz0 hz1 hz2 rfl (by decide) _ _ _ rfl (hrow.alloc _) ⟨W.heap.size, 0, none⟩ 1 1 (plc x) rfl rfl ?_ ?_ ?_ ?_ ?_ ?_)
    · exact cell_two_new _ _ _ _
    · simp [plc, Value.oneCell']
    · have : maxLen = 9223372036854775807 := rfl
      omega
    · omega
    · simp; omega
    · intro v' w1 hown' hgrow _
      obtain ⟨g', cap', rfl⟩ := ownsRow_succ hown'
      obtain ⟨hv1, hv2, hr2, hk2, hb2⟩ := hv.appended (by decide) hrow hB.size (Nat.le_refl _) hown' hgrow
      have hc1 := hv1.cell
      have hf1 := hv1.frozen
      gi_wp2
      refine ⟨hk2.from _, hk2.walks, ⟨_, hv2, ?_, by simp⟩, hB.trans hb2⟩
      simpa [List.flatMap_append] using hr2
  case done =>
    rintro D ss W hD hS ⟨⟨v, hv, hrow, hnil⟩, hB⟩ hK
    have hc := hv.cell
    gi_wp2
    refine ⟨by simp, .inl ⟨_, _, rfl, run_takeDeferred hK, ?_⟩⟩
    exact ⟨_, results_tmp rfl _ _ _, v, ss, rfl, hS, ownsRow_putObj hrow _ hK rfl, hnil, hB.trans (belowK_b (w := w) (Nat.le_refl _) W D _ _ (by simp at hD; omega) hK rfl rfl)⟩
  case stop =>
    rintro D c pre W _ _ h
    exact h.elim
set_option maxHeartbeats 4000000 in
theorem collect_in (n : Nat) (hn : 4 ≤ n) (g : Nat) (lb : Array Value) (eg : ∀ args w, (callFunc g args).run Tryz.prog w = .ok (.enter g args) w) (S : List Pl → Prop) (N : Nat) (hN : N ≤ 1000000) (w : World) (hseq : SeqStops Fence.wide (n - 1 - 1) Tryz.prog g lb encP S (fun _ => True) N w) :
    CallsIn Fence.wide n Tryz.prog 111 #[.func (.func g) #[] lb] w fun e w' => ∃ (v : Value) (ss : List Pl), e = .returned v ∧ S ss ∧ w'.ownsRow w.heap.size 135 2 v ss.length (ss.flatMap plc) ∧ (v = .slice none 0 0 ↔ ss = []) ∧ Below w.heap.size w w' := by
  have h1 : 1 ≤ n := by omega
  refine callsIn_of_wp Tryz.func111 rfl trivial ?_ rfl
  simp only [Tryz.ntmps111, List.size_toArray, List.length_cons, List.length_nil, Nat.reduceAdd, Nat.reduceSub, Array.replicate_succ, Array.replicate_zero, List.push_toArray, List.append_toArray, List.nil_append, List.cons_append]
  gi_wp2_with (refine ⟨trivial, ?_⟩; gi_at_call 127; refine (appendSeq_in (n - 1) (by omega) g lb eg S N hN _ hseq).mono ?_; rintro e w' ⟨v, ss, rfl, hS, hrow, hnil, hb⟩)
  go_ret
  exact ⟨v, ss, rfl, hS, hrow, hnil, hb⟩
end Go.Proofs.YtcelailgedndnaaGreatS
namespace Go.Proofs.YtcelailgedndnaaGreatS
open Go.RowKit Go.Sort Go.Shelf Go.Lib
set_option linter.unusedVariables false
set_option linter.unusedSimpArgs false
theorem Sat.row {w0 w w' : World} {A : HP} (s : Sat w0 w A) (hB : Go.RowKit.Below w.heap.size w w') {el sz k : Nat} {v : Value} {xs : List Value} (hr : w'.ownsRow w.heap.size el sz v k xs) :
    ∃ a cap, v = .slice a k cap ∧ (v = .slice none 0 0 → a = none) ∧ Sat w0 w' (ow el sz a k cap xs * A) := by
  obtain ⟨r, ha, hm⟩ := s.mem
  have hlt : ∀ b x, r b = some x → b < w.heap.size := fun b x e => (Array.getElem?_eq_some_iff.1 (hm b x.1 x.2 e)).1
  have hsz : w0.heap.size ≤ w'.heap.size ∧ (DR.dr = true → w0.drawn ≤ w'.drawn) := ⟨Nat.le_trans s.size.1 hB.size, fun h => by cases h⟩
  obtain ⟨hl, ⟨rfl, rfl⟩ | ⟨g, cap, cur, rfl, hg, hh, h1, h2, h3, h4⟩⟩ := hr
  · refine ⟨none, 0, rfl, fun _ => rfl, hB.os.trans s.os, hB.tape.trans s.tape, hB.output.trans s.output, hsz, r, ⟨fun _ => none, r, fun _ => rfl, ⟨hl, Nat.le_refl _, Nat.zero_le _, .inl ⟨rfl, fun _ => rfl⟩⟩, ha⟩, fun b p o e => ?_⟩
    exact (hB.block b (hlt b _ e)).trans (hm b p o e)
  · refine ⟨some ⟨g, 0, none⟩, cap, rfl, fun h => by simp at h, hB.os.trans s.os, hB.tape.trans s.tape, hB.output.trans s.output, hsz, fun b => if b = g then some (true, .cells cur el (0, 0)) else r b,
      ⟨fun b => if b = g then some (true, .cells cur el (0, 0)) else none, r, fun b => ?_, ⟨hl, h1, h2, .inr ⟨g, cur.toList, rfl, by simpa using h3, h4, rfl⟩⟩, ha⟩, fun b p o e => ?_⟩
    · by_cases hb : b = g
      · subst hb
        have : r b = none := by
          cases e : r b with
          | none => rfl
          | some x => have := hlt b x e; omega
        simp only [if_true, this]; exact rfl
      · simp only [if_neg hb]; exact rfl
    · by_cases hb : b = g
      · subst hb
        simp at e
        obtain ⟨_, rfl⟩ := e
        exact hh
      · simp only [if_neg hb] at e
        exact (hB.block b (hlt b _ e)).trans (hm b p o e)
theorem collectS (Bm b : Nat) (M : Mm) (H : HP) (hM : M.length ≤ 1000000) :
    Spec Tryz.prog 111 [.func (.func 113) #[] #[.pointer (some ⟨Bm, 0, none⟩)]] (pm b M * (cl true Bm [.map (some b)] 112 (0, 0) * H)) (X := Option Addr × Nat × List Pl) (fun y => .slice y.1 y.2.2.length y.2.1) (fun y => y.2.2.Perm (M.map (·.1)) ∧ (y.2.2 = [] → y.1 = none))
      (fun y => ow 135 2 y.1 y.2.2.length y.2.1 (y.2.2.flatMap plc) * (pm b M * H)) := by
  intro w0 w F s
  rw [sep_assoc] at s
  obtain ⟨E, c, hE, hM2, hb, _⟩ := pm_open s
  have s2 := s.drop
  rw [sep_assoc] at s2
  have hbm : w.heap[Bm]? = some (.cells [.map (some b)].toArray 112 (0, 0)) := s2.blk
  have hBm : Bm < w.heap.size := (Array.getElem?_eq_some_iff.1 hbm).1
  have hm : w.cell? ⟨Bm, 0, none⟩ = some (.map (some b)) := by unfold World.cell?; rw [hbm]; rfl
  have hlen : E.length = M.length := by rw [← hM2, List.length_map]
  have hk : (E.map (·.1)) = M.map (·.1) := by rw [← hM2, List.map_map]; rfl
  have hcon := callsIn_wide.1 (collect_in 4 (by omega) 113 #[.pointer (some ⟨Bm, 0, none⟩)] (fun args w => run_call args w) _ E.length (by omega) w (keys_stops 2 (by omega) Bm b E c hE w hBm hm hb))
  refine hcon.mono ?_
  rintro e w' ⟨v, ss, rfl, hS, hrow, hnil, hB⟩
  obtain ⟨a, cap, rfl, hn, s'⟩ := s.row hB hrow
  refine ⟨(a, cap, ss), rfl, ⟨hk ▸ hS, fun h => hn (hnil.2 h)⟩, ?_⟩
  have h : Ent (ow 135 2 a ss.length cap (ss.flatMap plc) * (pm b M * (cl true Bm [.map (some b)] 112 (0, 0) * H))) (ow 135 2 a ss.length cap (ss.flatMap plc) * (pm b M * H)) := Ent.frameL (Ent.frameL (Ent.drop _ _) _) _
  exact h _ _ F (by rw [sep_assoc, sep_assoc]; exact s')
theorem keysS (b : Nat) (H : HP) : Spec Tryz.prog 88 [.map (some b)] H (X := Nat) (fun y => .func (.func 113) #[] #[.pointer (some ⟨y, 0, none⟩)]) (fun _ => True)
      (fun y => cl true y [.map (some b)] 112 (0, 0) * H) := by
  intro w0 w F s
  have hcon : Calls Tryz.prog 88 #[.map (some b)] w fun e w' => e = .returned (.func (.func 113) #[] #[.pointer (some ⟨w.heap.size, 0, none⟩)]) ∧ w' = w.alloc (.cells #[.map (some b)] 112) := by
    go_enter Tryz.func88, Tryz.ntmps88
    go_wp2
    go_ret
    exact ⟨rfl, rfl⟩
  refine hcon.mono ?_
  rintro e w' ⟨rfl, rfl⟩
  refine ⟨w.heap.size, rfl, trivial, ?_⟩
  rw [sep_assoc]
  exact s.alloc _
theorem cloneS (b : Nat) (M : Mm) (H : HP) : Spec Tryz.prog 123 [.map (some b)] (pm b M * H) (X := Nat) (fun y => .map (some y)) (fun _ => True) (fun y => pm y M * (pm b M * H)) := by
  intro w0 w F s
  rw [sep_assoc] at s
  obtain ⟨E, c, hE, hM2, hb, _⟩ := pm_open s
  have hcon := AnyW.maps_Clone Tryz.cloneM b (E.map me).toArray c w hb
  change Calls Tryz.prog 123 _ w _ at hcon
  refine hcon.mono ?_
  rintro e w' ⟨rfl, rfl⟩
  refine ⟨w.heap.size, rfl, trivial, ?_⟩
  rw [sep_assoc, sep_assoc]
  exact pm_mk hE hM2 (s.alloc _)
end Go.Proofs.YtcelailgedndnaaGreatS
namespace Go.Proofs.YtcelailgedndnaaGreatS
open Go.RowKit
set_option linter.unusedVariables false
set_option linter.unusedSimpArgs false
attribute [local irreducible] Ops Ex Spec T V QO OA Rn OS
abbrev fk : Value := .func (.func 89) #[] #[]
abbrev fi1 (Bm : Nat) : Value := .func (.func 113) #[] #[.pointer (some ⟨Bm, 0, none⟩)]
def keysOf (M : Mm) : List Pl := psort (M.map (·.1))
theorem keysOf_len (M : Mm) : (keysOf M).length = M.length := by unfold keysOf; rw [(psort_perm _).length_eq, List.length_map]
theorem sortedS (Bm b : Nat) (M : Mm) (H : HP) (hM : M.length ≤ 1000000) :
    Spec Tryz.prog 87 [fi1 Bm, fk] (pm b M * (cl true Bm [.map (some b)] 112 (0, 0) * H)) (X := Option Addr × Nat) (fun y => .slice y.1 M.length y.2) (fun y => True)
      (fun y => ow 135 2 y.1 M.length y.2 ((keysOf M).flatMap plc) * (pm b M * H)) := by
  refine spec_of Tryz.func87 rfl Tryz.ntmps87 rfl ?_
  repeat' (first | (refine rG 0 [0, 1] ?_; ((try (refine wK ?_; intro _)))) | (refine rG 1 [1, 5] ?_; ((try refine wO ?_) <;> (try ((refine o_callH (collectS Bm b M H hM) (by first | exact True.intro | (show _ < _; decide)) rfl rfl (fun y hy => ?_); obtain ⟨a, c, ss⟩ := y; obtain ⟨hp, hn⟩ := hy))) <;> (try (refine wK ?_; intro _)))) | refine wC ?_ | (refine ex_split rfl ?_ ?_ <;> intro hc))
  have hl : ss.length = M.length := by have := hp.length_eq; simpa using this
  have hk : psort ss = keysOf M := by unfold keysOf; exact psort_eq ((psort_perm ss).trans hp) (psort_sorted ss)
  repeat' (first | (refine rG 2 [5] ?_; ((try refine wO ?_) <;> (try (refine o_callH (sortS _ a ss c hn (by omega)) (by first | exact True.intro | (show _ < _; decide)) rfl rfl (fun _ _ => ?_))) <;> (try (refine wK ?_; intro _)))) | (refine rG 3 [4] ?_; ((try (refine wK ?_; intro _)))) | refine wC ?_ | (refine ex_split rfl ?_ ?_ <;> intro hc))
  exact fin (.inr rfl) (a, c) (resl1 rfl (rv_tmp (by rw [hl]; rfl))) trivial (by rw [hk, hl]; exact Ent.refl _)
theorem sortedT {X : HP} (Bm b : Nat) (M : Mm) (H : HP) [t : Take (pm b M * cl true Bm [.map (some b)] 112 (0, 0)) X H] (hM : M.length ≤ 1000000) :
    Spec Tryz.prog 87 [fi1 Bm, fk] X (X := Option Addr × Nat) (fun y => .slice y.1 M.length y.2) (fun y => True)
      (fun y => ow 135 2 y.1 M.length y.2 ((keysOf M).flatMap plc) * (pm b M * H)) := by
  rw [t.eq, sep_assoc]; exact sortedS Bm b M H hM
theorem cloneT {X H : HP} (b : Nat) (M : Mm) [t : Take (pm b M) X H] : Spec Tryz.prog 123 [.map (some b)] X (X := Nat) (fun y => .map (some y)) (fun _ => True) (fun y => pm y M * X) := by
  have h := cloneS b M H
  rw [← t.eq] at h
  exact h
theorem placesS (b mb : Nat) (M : Mm) (s d k : Value) (H : HP) (hM : M.length ≤ 1000000) :
    Spec Tryz.prog 54 [.pointer (some ⟨b, 0, none⟩)] (cl true b [s, d, k, .map (some mb)] 114 (0, 0) * (pm mb M * H)) (X := Option Addr × Nat) (fun y => .slice y.1 M.length y.2) (fun y => True)
      (fun y => ow 135 2 y.1 M.length y.2 ((keysOf M).flatMap plc) * (pm mb M * (cl true b [s, d, k, .map (some mb)] 114 (0, 0) * H))) := by
  refine spec_of Tryz.func54 rfl Tryz.ntmps54 rfl ?_
  repeat' (first | (refine rG 0 [0] ?_; ((try (refine wK ?_; intro _)))) | (refine rG 1 [2] ?_; ((try refine wO ?_) <;> (try (refine o_callH (keysS mb _) (by first | exact True.intro | (show _ < _; decide)) rfl rfl (fun bk _ => ?_))) <;> (try ((refine o_callH (sortedT bk mb M _ hM) (by first | exact True.intro | (show _ < _; decide)) rfl rfl (fun y _ => ?_)))) <;> (try (refine wK ?_; intro _)))) | refine wC ?_ | (refine ex_split rfl ?_ ?_ <;> intro hc))
  exact fin (.inr rfl) y (resl1 rfl (rv_tmp rfl)) trivial (Ent.refl _)
end Go.Proofs.YtcelailgedndnaaGreatS
namespace Go.Proofs.YtcelailgedndnaaGreatS
open Go.RowKit
set_option linter.unusedVariables false
set_option linter.unusedSimpArgs false
attribute [local irreducible] Ops Ex Spec T V QO OA Rn OS
def PN (b mb : Nat) (s d k : Int) (M : Mm) : HP := cl true b [.int .i64 s, .int .i64 d, .int .i64 k, .map (some mb)] 114 (0, 0) * pm mb M
theorem pnLen {X H : HP} (b mb : Nat) (s d k : Int) (M : Mm) [t : Take (PN b mb s d k M) X H] :
    Spec Tryz.prog 18 [.pointer (some ⟨b, 0, none⟩)] X (X := Unit) (fun _ => .int .i64 (M.length : Int)) (fun _ => True) (fun _ => X) := by
  rw [t.eq]; unfold PN; rw [sep_assoc]
  refine spec_of Tryz.func18 rfl Tryz.ntmps18 rfl ?_
  repeat' (first | (refine rG 0 [0] ?_; ((try (refine wK ?_; intro _)))) | (refine ex_regk (id := 1) (ts := [2]) ?_; ((try (first | refine o_mv (v := .pointer _) (by decide) rfl ?_ | refine o_mv (by decide) rfl ?_)) <;> (try (first | refine o_nil (by decide) rfl ?_ | refine o_nil_func (by decide) rfl ?_)) <;> (try (refine o_fieldAddr' (by decide) rfl ?_)) <;> (try (first | refine o_load_s (v := _) (by decide) rfl rfl ?_ | refine o_load_s (by decide) rfl rfl ?_ | refine o_load_r (by decide) rfl (by assumption) ?_ | refine o_load_r (v := _) (by decide) rfl rfl ?_)) <;> (try (refine o_pmLen (b := mb) (M := M) (by decide) rfl rfl ?_)) <;> (try (first | refine o_as (v := .int _ _) (by decide) rfl ?_ | refine o_as (by decide) rfl ?_)) <;> (try (refine ops_nilk ?_; intro _)) <;> (try ((first | refine keep_cons (v := .int _ _) rfl ?_ | refine keep_cons (v := _) rfl ?_))) <;> (try refine keep_nil ?_))) | refine wC ?_ | (refine ex_split rfl ?_ ?_ <;> intro hc))
  exact fin (.inr rfl) () (resl1 rfl (rv_tmp rfl)) trivial (Ent.refl _)
theorem pnNew (H : HP) (s d k : Int) :
    Spec Tryz.prog 76 [.int .i64 s, .int .i64 d, .int .i64 k] H (X := Nat × Nat) (fun y => .pointer (some ⟨y.1, 0, none⟩)) (fun _ => True) (fun y => PN y.1 y.2 s d k [] * H) := by
  refine spec_of Tryz.func76 rfl Tryz.ntmps76 rfl ?_
  repeat' (first | (refine rG 0 [0, 1, 2] ?_; ((try (refine wK ?_; intro _)))) | (refine rG 1 [6] ?_; ((try refine wO ?_) <;> (try (refine o_pmMake (by decide) (fun mb => ?_))) <;> (try refine wO ?_) <;> (try ((refine o_box (by decide) (v := .agg (List.toArray _)) rfl rfl (fun _ => ?_)))) <;> (try (refine wK ?_; intro _)))) | refine wC ?_ | (refine ex_split rfl ?_ ?_ <;> intro hc))
  exact fin (.inr rfl) (_, mb) (resl1 rfl (rv_tmp rfl)) trivial (by unfold PN; exact Ent.ofEq (by rw [sep_assoc]; rfl))
theorem pnCopy {X H : HP} (b mb : Nat) (s d k : Int) (M : Mm) [t : Take (PN b mb s d k M) X H] :
    Spec Tryz.prog 105 [.pointer (some ⟨b, 0, none⟩)] X (X := Nat × Nat) (fun y => .pointer (some ⟨y.1, 0, none⟩)) (fun _ => True) (fun y => PN y.1 y.2 s d k M * X) := by
  rw [t.eq]; unfold PN; rw [sep_assoc]
  refine spec_of Tryz.func105 rfl Tryz.ntmps105 rfl ?_
  repeat' (first | (refine rG 0 [0] ?_; ((try (refine wK ?_; intro _)))) | (refine rG 1 [0, 3] ?_; ((try refine wO ?_) <;> (try ((refine o_alloc_a (by decide) (fun _ => ?_)))) <;> (try (refine wK ?_; intro _)))) | (refine rG 2 [3] ?_; ((try refine wO ?_) <;> (try (refine o_callH (cloneT mb M) (by first | exact True.intro | (show _ < _; decide)) rfl rfl (fun m2 _ => ?_))) <;> (try (refine wK ?_; intro _)))) | (refine rG 3 [2] ?_; ((try (refine wK ?_; intro _)))) | refine wC ?_ | (refine ex_split rfl ?_ ?_ <;> intro hc))
  exact fin (.inr rfl) (_, m2) (resl1 rfl (rv_tmp rfl)) trivial (Ent.ofEq (by rw [sep_assoc]; rfl))
theorem pnRow {X H : HP} (b mb : Nat) (s d k : Int) (M : Mm) (p : Pl) (c kd v l : Int) [t : Take (PN b mb s d k M) X H] (hg : mget M p = some (.agg (List.toArray [.int .i64 c, .int .i64 kd, .int .i64 v, .int .u64 l]))) :
    Spec Tryz.prog 55 [.pointer (some ⟨b, 0, none⟩), .agg (plc p).toArray] X (X := Unit) (fun _ => .agg (List.toArray [.int .i64 p.1, .int .i64 p.2, .int .i64 v, .int .i64 c, .int .u64 l])) (fun _ => True) (fun _ => X) := by
  rw [t.eq]; unfold PN; rw [sep_assoc]
  obtain ⟨p1, p2⟩ := p
  show Spec _ _ [_, .agg (List.toArray [.int .i64 p1, .int .i64 p2])] _ _ _ _
  refine spec_of Tryz.func55 rfl Tryz.ntmps55 rfl ?_
  repeat' (first | (refine rG 0 [0, 3, 4] ?_; ((try ((refine o_box (by decide) (v := .agg (List.toArray _)) rfl rfl (fun _ => ?_)))) <;> (try ((refine o_alloc_a (by decide) (fun _ => ?_)))) <;> (try (refine wK ?_; intro _)))) | (refine rA 1 [3, 4, 5] 8 ?_; (refine os_all ?_); ((refine lQ 0 ?_; ((refine lQ 1 ?_; ((refine lQ 2 ?_; ((refine lQ 3 ?_; ((refine lQ 4 ?_; ((refine os_two 5 6 (by kernel_rfl) rfl rfl ?_ ?_ <;> first | (refine os_sel (d := some 11) rfl ?_ <;> (refine o_lookup1 (b := mb) (M := M) (p := (p1, p2)) (by decide) rfl rfl hg ?_) <;> (refine os_nil ?_) <;> ((refine oN 6 ?_ <;> ((refine o_alloc_a (by decide) (fun _ => ?_))) <;> (refine os_nil ?_) <;> ((refine oN 7 ?_ <;> (refine wO ?_) <;> (refine os_nil ?_) <;> ((refine dK ?_; intro _))))))) | (refine os_sel (d := some 5) rfl ?_ <;> ((refine o_alloc_a (by decide) (fun _ => ?_))) <;> (refine os_nil ?_) <;> ((refine oN 5 ?_ <;> (refine o_lookup1 (b := mb) (M := M) (p := (p1, p2)) (by decide) rfl rfl hg ?_) <;> (refine os_nil ?_) <;> ((refine oN 7 ?_ <;> (refine wO ?_) <;> (refine os_nil ?_) <;> ((refine dK ?_; intro _)))))))))))))))))))) | (refine rG 2 [4] ?_; ((try (refine wK ?_; intro _)))) | refine wC ?_ | (refine ex_split rfl ?_ ?_ <;> intro hc))
  all_goals exact fin (.inr rfl) () (resl1 rfl (rv_cell_a rfl rfl)) trivial ent_take
end Go.Proofs.YtcelailgedndnaaGreatS
namespace Go.Proofs.YtcelailgedndnaaGreatS
open Go.RowKit
/-- A set of numbers below 64, as the program holds it. -/
def U (x : BitVec 64) : Int := (x.toNat : Int)
theorem U_lt (x : BitVec 64) : 0 ≤ U x ∧ U x < 18446744073709551616 := by unfold U; have := x.isLt; omega
theorem U_inj {x y : BitVec 64} (h : U x = U y) : x = y := by unfold U at h; exact BitVec.eq_of_toNat_eq (by omega)
theorem U_eq (x y : BitVec 64) : (U x == U y) = decide (x = y) := by
  rw [Bool.eq_iff_iff]; simp only [beq_iff_eq, decide_eq_true_eq]
  exact ⟨U_inj, fun h => by rw [h]⟩
theorem wrapU (n : Nat) (h : n < 18446744073709551616) : IntKind.u64.wrap (n : Int) = (n : Int) := by rw [IntKind.wrap_u64]; omega
theorem ofInt_U (x : BitVec 64) : BitVec.ofInt 64 (U x) = x := by unfold U; rw [BitVec.ofInt_natCast]; simp
theorem and_U (x y : BitVec 64) : bits .and .u64 (U x) (U y) = U (x &&& y) := by
  show IntKind.u64.wrap (((BitVec.ofInt 64 (U x)) &&& (BitVec.ofInt 64 (U y))).toNat : Int) = _
  rw [ofInt_U, ofInt_U]; exact wrapU _ (BitVec.isLt _)
theorem or_U (x y : BitVec 64) : bits .or .u64 (U x) (U y) = U (x ||| y) := by
  show IntKind.u64.wrap (((BitVec.ofInt 64 (U x)) ||| (BitVec.ofInt 64 (U y))).toNat : Int) = _
  rw [ofInt_U, ofInt_U]; exact wrapU _ (BitVec.isLt _)
theorem andNot_U (x y : BitVec 64) : bits .andNot .u64 (U x) (U y) = U (x &&& ~~~y) := by
  show IntKind.u64.wrap (((BitVec.ofInt 64 (U x)) &&& ~~~(BitVec.ofInt 64 (U y))).toNat : Int) = _
  rw [ofInt_U, ofInt_U]; exact wrapU _ (BitVec.isLt _)
theorem U_zero : U 0 = 0 := rfl
theorem U_ones : U (BitVec.allOnes 64) = 18446744073709551615 := rfl
theorem U_of {a : Int} (w : (Lit.int .u64 a).wf = true) : ∃ x : BitVec 64, a = U x := by
  unfold Lit.wf at w
  rw [Bool.and_eq_true] at w
  have h1 := of_decide_eq_true w.1
  have h2 := of_decide_eq_true w.2
  have h1 : 0 ≤ a := h1
  have h2 : a ≤ 18446744073709551615 := h2
  exact ⟨BitVec.ofNat 64 a.toNat, by unfold U; rw [BitVec.toNat_ofNat]; omega⟩
def bt (id : Int) : BitVec 64 := if 0 ≤ id ∧ id < 64 then 1#64 <<< id.toNat else 0
theorem bt_U (id : Int) (h0 : 0 ≤ id) (h1 : id < 64) : IntKind.u64.wrap (1 * 2 ^ min id.toNat IntKind.u64.bits) = U (bt id) := by
  unfold bt U
  rw [if_pos ⟨h0, h1⟩]
  obtain ⟨k, rfl⟩ : ∃ k : Nat, id = (k : Int) := ⟨id.toNat, by omega⟩
  rw [Int.toNat_natCast]
  have hk : k < 64 := by omega
  have e : min k IntKind.u64.bits = k := Nat.min_eq_left (by show k ≤ 64; omega)
  rw [e, BitVec.toNat_shiftLeft, IntKind.wrap_u64, Nat.shiftLeft_eq]
  have : (2 : Int) ^ k = ((2 ^ k : Nat) : Int) := by simp
  rw [this]
  have h1 : (1#64).toNat = 1 := rfl
  rw [h1]
  have hp : 2 ^ k < 2 ^ 64 := Nat.pow_lt_pow_right (by decide) hk
  rw [Nat.mod_eq_of_lt (by omega)]
  omega
set_option linter.unusedVariables false
set_option linter.unusedSimpArgs false
attribute [local irreducible] Ops Ex Spec T V QO OA Rn
theorem o_load_rb {P : Program} {n : Nat} {ops : Array Oper} {rest : List Oper} {e : Env} {H : HP} {Φ : Post} {d : Nat} {ty : TypeId} {ps : String} {af : Array Edge} {t : TypeId} {z : Value} {x : Operand} {b o j : Nat} {v : Value} {l} [c : Sc P t z] [hr : RdC H (some ⟨b, o, none⟩) l] (hd : d < n) (hx : ev e x = .pointer (some ⟨b, o + j, none⟩)) (hv : l[j]? = some v)
    (k : Ops P n ops rest (put e d v) H Φ) : Ops P n ops (⟨some d, .load t x, ty, ps, af, none⟩ :: rest) e H Φ := o_load_r hd (by rw [hx, add_none]) hv k
theorem bit (id : Int) : Spec Tryz.prog 86 [.int .i64 id] 1 (X := Unit) (fun _ => .int .u64 (U (bt id))) (fun _ => True) (fun _ => 1) := by
  refine spec_of Tryz.func86 rfl Tryz.ntmps86 rfl ?_
  by_cases h0 : id < 0
  · have d0 : decide (id < 0) = true := decide_eq_true h0
    have hb : bt id = 0 := by unfold bt; rw [if_neg (by omega)]
    rw [hb]
    repeat' (first | (refine rG 0 [0] ?_; ((try (refine wK ?_; intro _)))) | (refine rG 1 [0, 8] ?_; ((try refine wO ?_) <;> (repeat' (refine g_split rfl (by decide) rfl (by decide) ?_ ?_ <;> intro hc <;> (try refine wO ?_))) <;> (try (refine wK ?_; intro _)))) | (refine rG 2 [2] ?_; ((try (refine wK ?_; intro _)))) | refine wC ?_ | (refine ex_split rfl ?_ ?_ <;> intro hc))
    exact fin (.inr rfl) () (resl1 rfl (rv_tmp rfl)) trivial (Ent.toOne _)
  · have d0 : decide (id < 0) = false := decide_eq_false h0
    by_cases h1 : id ≥ 64
    · have d1 : decide (id ≥ 64) = true := decide_eq_true h1
      have hb : bt id = 0 := by unfold bt; rw [if_neg (by omega)]
      rw [hb]
      repeat' (first | (refine rG 0 [0] ?_; ((try (refine wK ?_; intro _)))) | (refine rG 1 [0, 8] ?_; ((try refine wO ?_) <;> (repeat' (refine g_split rfl (by decide) rfl (by decide) ?_ ?_ <;> intro hc <;> (try refine wO ?_))) <;> (try (refine wK ?_; intro _)))) | (refine rG 2 [2] ?_; ((try (refine wK ?_; intro _)))) | refine wC ?_ | (refine ex_split rfl ?_ ?_ <;> intro hc))
      exact fin (.inr rfl) () (resl1 rfl (rv_tmp rfl)) trivial (Ent.toOne _)
    · have d1 : decide (id ≥ 64) = false := decide_eq_false h1
      have h3 : 0 ≤ id := by omega
      repeat' (first | (refine rG 0 [0] ?_; ((try (refine wK ?_; intro _)))) | (refine rG 1 [0, 8] ?_; ((try refine wO ?_) <;> (repeat' (refine g_split rfl (by decide) rfl (by decide) ?_ ?_ <;> intro hc <;> (try refine wO ?_))) <;> (try (refine wK ?_; intro _)))) | (refine rG 3 [2] ?_; ((try (refine wK ?_; intro _)))) | refine wC ?_ | (refine ex_split rfl ?_ ?_ <;> intro hc))
      rw [bt_U id h3 (by omega)]
      exact fin (.inr rfl) () (resl1 rfl (rv_tmp rfl)) trivial (Ent.toOne _)
theorem below (a b : BitVec 64) : Spec Tryz.prog 30 [.int .u64 (U a), .int .u64 (U b)] 1 (X := Unit) (fun _ => .bool (decide (a &&& ~~~b = 0))) (fun _ => True) (fun _ => 1) := by
  refine spec_of Tryz.func30 rfl Tryz.ntmps30 rfl ?_
  repeat' (first | (refine rG 0 [0, 1] ?_; ((try (refine wK ?_; intro _)))) | (refine rG 1 [4] ?_; ((try (refine wK ?_; intro _)))) | refine wC ?_ | (refine ex_split rfl ?_ ?_ <;> intro hc))
  rw [andNot_U, ← U_zero, U_eq]
  exact fin (.inr rfl) () (resl1 rfl (rv_tmp rfl)) trivial (Ent.toOne _)
theorem has (m : BitVec 64) (id : Int) : Spec Tryz.prog 85 [.int .u64 (U m), .int .i64 id] 1 (X := Unit) (fun _ => .bool (!decide (m &&& bt id = 0))) (fun _ => True) (fun _ => 1) := by
  refine spec_of Tryz.func85 rfl Tryz.ntmps85 rfl ?_
  repeat' (first | (refine rG 0 [0, 1] ?_; ((try (refine wK ?_; intro _)))) | (refine rG 1 [4] ?_; ((try refine wO ?_) <;> (try (refine o_call (bit id) (by first | exact True.intro | (show _ < _; decide)) rfl rfl (fun _ _ => ?_))) <;> (try (refine wK ?_; intro _)))) | refine wC ?_ | (refine ex_split rfl ?_ ?_ <;> intro hc))
  rw [and_U, ← U_zero]
  have : (U (m &&& bt id) != U 0) = !decide (m &&& bt id = 0) := by rw [← U_eq]; rfl
  rw [this]
  exact fin (.inr rfl) () (resl1 rfl (rv_tmp rfl)) trivial (Ent.toOne _)
def jn (l : List (BitVec 64)) (m : BitVec 64) : BitVec 64 := l.foldl (· ||| ·) m
def mt (l : List (BitVec 64)) (m : BitVec 64) : BitVec 64 := l.foldl (· &&& ·) m
def off_ (l : List Int) (m : BitVec 64) : BitVec 64 := l.foldl (fun m id => m ||| bt id) m
def us (l : List (BitVec 64)) : List Value := ints .u64 (l.map U)
theorem us_get {l : List (BitVec 64)} {i : Nat} (h : i < l.length) : (us l)[i]? = some (.int .u64 (U l[i])) := by simp [us, ints, h]
theorem us_len (l : List (BitVec 64)) : (us l).length = l.length := by simp [us, ints]
theorem join (H : HP) (a : Option Addr) (l : List (BitVec 64)) (cap : Nat) {cs : List Value} [hr : RdC H a cs] (hcs : cs = us l) (hl : l.length ≤ 1000000) : Spec Tryz.prog 53 [.slice a l.length cap] H (X := Unit) (fun _ => .int .u64 (U (jn l 0))) (fun _ => True) (fun _ => H) := by
  subst hcs
  refine spec_of Tryz.func53 rfl Tryz.ntmps53 rfl ?_
  repeat' (first | (refine rG 0 [0] ?_; ((try (refine wK ?_; intro _)))) | (refine rG 1 [0, 3] ?_; ((try (refine wK ?_; intro _)))) | (refine rG 2 [3, 6, 7, 8] ?_; ((try (refine wK ?_; intro _)))) | refine wC ?_ | (refine ex_split rfl ?_ ?_ <;> intro hc))
  refine ex_loopE (fun mm e H' => ∃ g, ∃ i : Nat, ∃ m : BitVec 64, e = put (put (put (put g 3 (.int .u64 (U m))) 6 (.slice a l.length cap)) 7 (.int .i64 (l.length : Int))) 8 (.int .i64 (i : Int)) ∧ H' = H ∧ i ≤ l.length ∧ mm = l.length - i ∧ jn (l.drop i) m = jn l 0) (m := l.length) ⟨_, 0, 0, rfl, rfl, by omega, by omega, rfl⟩ ?_ ?_
  · exact ent_take
  · rintro mm e H' ⟨g, i, m, rfl, rfl, hi, rfl, hs⟩
    by_cases hlt : i < l.length
    · have hd : decide ((i : Int) < (l.length : Int)) = true := by simp; omega
      have h0 : 0 ≤ (i : Int) := by omega
      have h1 : (i : Int) < (l.length : Int) := by omega
      refine Ex.rd_some (a := a) (l := us l) (by rw [us_len]; omega) (fun ad ha => ?_)
      subst ha
      have hv : (us l)[(i : Int).toNat * 1]? = some (.int .u64 (U l[i])) := by rw [Int.toNat_natCast, Nat.mul_one]; exact us_get hlt
      have ei : IntKind.i64.wrap ((i : Int) + 1) = ((i + 1 : Nat) : Int) := by rw [IntKind.wrap_i64]; omega
      rw [List.drop_eq_getElem_cons hlt] at hs
      repeat' (first | (refine rG 3 [3, 6, 7, 8, 9] ?_; ((try (refine wK ?_; intro _)))) | (refine rG 4 [3, 5, 6, 7, 8] ?_; ((try (refine wK ?_; intro _)))) | (refine rG 5 [3, 6, 7, 8] ?_; ((try (refine wK ?_; intro _)))) | (refine rG 6 [3, 6, 7, 8] ?_; ((try (refine wK ?_; intro _)))) | refine wC ?_ | (refine ex_split rfl ?_ ?_ <;> intro hc))
      rw [ei, or_U]
      refine ⟨l.length - (i + 1), by omega, _, ?_, _, i + 1, m ||| l[i], rfl, rfl, by omega, rfl, hs⟩
      exact ent_take
    · have hil : i = l.length := by omega
      subst hil
      have hd : decide ((l.length : Int) < (l.length : Int)) = false := by simp
      rw [List.drop_length] at hs
      repeat' (first | (refine rG 3 [3, 6, 7, 8, 9] ?_; ((try (refine wK ?_; intro _)))) | (refine rG 7 [2] ?_; ((try (refine wK ?_; intro _)))) | refine wC ?_ | (refine ex_split rfl ?_ ?_ <;> intro hc))
      rw [show m = jn l 0 from hs]
      exact fin (.inr rfl) () (resl1 rfl (rv_tmp rfl)) trivial ent_take
theorem of_ (H : HP) (a : Option Addr) (l : List Int) (cap : Nat) {cs : List Value} [hr : RdC H a cs] (hcs : cs = ints .i64 l) (hl : l.length ≤ 1000000) : Spec Tryz.prog 52 [.slice a l.length cap] H (X := Unit) (fun _ => .int .u64 (U (off_ l 0))) (fun _ => True) (fun _ => H) := by
  subst hcs
  refine spec_of Tryz.func52 rfl Tryz.ntmps52 rfl ?_
  repeat' (first | (refine rG 0 [0] ?_; ((try (refine wK ?_; intro _)))) | (refine rG 1 [0, 3] ?_; ((try (refine wK ?_; intro _)))) | (refine rG 2 [3, 6, 7, 8] ?_; ((try (refine wK ?_; intro _)))) | refine wC ?_ | (refine ex_split rfl ?_ ?_ <;> intro hc))
  refine ex_loopE (fun mm e H' => ∃ g, ∃ i : Nat, ∃ m : BitVec 64, e = put (put (put (put g 3 (.int .u64 (U m))) 6 (.slice a l.length cap)) 7 (.int .i64 (l.length : Int))) 8 (.int .i64 (i : Int)) ∧ H' = H ∧ i ≤ l.length ∧ mm = l.length - i ∧ off_ (l.drop i) m = off_ l 0) (m := l.length) ⟨_, 0, 0, rfl, rfl, by omega, by omega, rfl⟩ ?_ ?_
  · exact ent_take
  · rintro mm e H' ⟨g, i, m, rfl, rfl, hi, rfl, hs⟩
    by_cases hlt : i < l.length
    · have hd : decide ((i : Int) < (l.length : Int)) = true := by simp; omega
      have h0 : 0 ≤ (i : Int) := by omega
      have h1 : (i : Int) < (l.length : Int) := by omega
      refine Ex.rd_some (a := a) (l := ints .i64 l) (by rw [ints_len]; omega) (fun ad ha => ?_)
      subst ha
      have hv : (ints .i64 l)[(i : Int).toNat * 1]? = some (.int .i64 l[i]) := by rw [Int.toNat_natCast, Nat.mul_one]; exact ints_get hlt
      have ei : IntKind.i64.wrap ((i : Int) + 1) = ((i + 1 : Nat) : Int) := by rw [IntKind.wrap_i64]; omega
      rw [List.drop_eq_getElem_cons hlt] at hs
      repeat' (first | (refine rG 3 [3, 6, 7, 8, 9] ?_; ((try (refine wK ?_; intro _)))) | (refine rG 4 [3, 5, 6, 7, 8] ?_; ((try (refine wK ?_; intro _)))) | (refine rG 5 [3, 6, 7, 8] ?_; ((try refine wO ?_) <;> (try (refine o_call (bit l[i]) (by first | exact True.intro | (show _ < _; decide)) rfl rfl (fun _ _ => ?_))) <;> (try (refine wK ?_; intro _)))) | (refine rG 6 [3, 6, 7, 8] ?_; ((try (refine wK ?_; intro _)))) | refine wC ?_ | (refine ex_split rfl ?_ ?_ <;> intro hc))
      rw [ei, or_U]
      refine ⟨l.length - (i + 1), by omega, _, ?_, _, i + 1, m ||| bt l[i], rfl, rfl, by omega, rfl, hs⟩
      exact ent_take
    · have hil : i = l.length := by omega
      subst hil
      have hd : decide ((l.length : Int) < (l.length : Int)) = false := by simp
      rw [List.drop_length] at hs
      repeat' (first | (refine rG 3 [3, 6, 7, 8, 9] ?_; ((try (refine wK ?_; intro _)))) | (refine rG 7 [2] ?_; ((try (refine wK ?_; intro _)))) | refine wC ?_ | (refine ex_split rfl ?_ ?_ <;> intro hc))
      rw [show m = off_ l 0 from hs]
      exact fin (.inr rfl) () (resl1 rfl (rv_tmp rfl)) trivial ent_take
end Go.Proofs.YtcelailgedndnaaGreatS
namespace Go.Proofs.YtcelailgedndnaaGreatS
open Go.RowKit
theorem neg_U (x : BitVec 64) : IntKind.u64.wrap (0 - U x) = U (-x) := by
  unfold U; rw [IntKind.wrap_u64, BitVec.toNat_neg]; have := x.isLt; omega
theorem sub1_U (x : BitVec 64) : IntKind.u64.wrap (U x - 1) = U (x - 1#64) := by
  unfold U; rw [IntKind.wrap_u64, BitVec.toNat_sub]; have := x.isLt; have e : (1#64).toNat = 1 := rfl; rw [e]; omega
theorem add_U (x y : BitVec 64) : IntKind.u64.wrap (U x + U y) = U (x + y) := by
  unfold U; rw [IntKind.wrap_u64, BitVec.toNat_add]; omega
theorem mul_U (x y : BitVec 64) : IntKind.u64.wrap (U x * U y) = U (x * y) := by
  unfold U; rw [IntKind.wrap_u64, BitVec.toNat_mul, ← Int.natCast_mul]; omega
theorem shr_U (x : BitVec 64) (k : Nat) (h : k ≤ 64) : (U x).fdiv (2 ^ min ((k : Int).toNat) IntKind.u64.bits) = U (x >>> k) := by
  unfold U
  have e : min ((k : Int).toNat) IntKind.u64.bits = k := by rw [Int.toNat_natCast]; exact Nat.min_eq_left h
  rw [e, BitVec.toNat_ushiftRight, Nat.shiftRight_eq_div_pow]
  have : (2 : Int) ^ k = ((2 ^ k : Nat) : Int) := by simp
  rw [this, Int.fdiv_eq_ediv_of_nonneg _ (Int.natCast_nonneg _)]
  simp
theorem U_toNat (x : BitVec 64) : (U x).toNat = x.toNat := Int.toNat_natCast _
/-- The lowest number in a set that is not empty. -/
theorem low (x : BitVec 64) (h : x ≠ 0) : ∃ i, i < 64 ∧ x.getLsbD i = true ∧ ∀ j, j < i → x.getLsbD j = false := by
  have hex : ∃ i, i < 64 ∧ x.getLsbD i = true := by
    refine Classical.byContradiction fun hn => h ?_
    refine BitVec.eq_of_getLsbD_eq fun i hi => ?_
    have := fun hc => hn ⟨i, hi, hc⟩
    show x.getLsbD i = (0#64).getLsbD i
    rw [BitVec.getLsbD_zero]
    simpa using this
  have : ∀ n, (∃ i, i < n ∧ i < 64 ∧ x.getLsbD i = true) → ∃ i, i < 64 ∧ x.getLsbD i = true ∧ ∀ j, j < i → x.getLsbD j = false := by
    intro n
    induction n with
    | zero => rintro ⟨i, hi, _⟩; omega
    | succ n ih =>
      rintro ⟨i, hi, hi64, hb⟩
      by_cases hs : ∃ j, j < n ∧ j < 64 ∧ x.getLsbD j = true
      · exact ih hs
      · have hin : i = n := by
          by_cases h1 : i < n
          · exact absurd ⟨i, h1, hi64, hb⟩ hs
          · omega
        refine ⟨i, hi64, hb, fun j hj => ?_⟩
        cases hc : x.getLsbD j with
        | false => rfl
        | true => exact absurd ⟨j, by omega, by omega, hc⟩ hs
  obtain ⟨i, hi, hb⟩ := hex
  exact this 64 ⟨i, hi, hi, hb⟩
theorem and_neg (x : BitVec 64) (i : Nat) (hi : i < 64) (hb : x.getLsbD i = true) (hl : ∀ j, j < i → x.getLsbD j = false) : x &&& -x = 1#64 <<< i := by
  refine BitVec.eq_of_getLsbD_eq fun k hk => ?_
  rw [BitVec.getLsbD_and, BitVec.getLsbD_neg, BitVec.getLsbD_shiftLeft]
  rcases Nat.lt_trichotomy k i with h | h | h
  · rw [hl k h]; simp [h]
  · subst h
    have : ¬ ∃ j, j < k ∧ x.getLsbD j = true := fun ⟨j, hj, hc⟩ => by rw [hl j hj] at hc; cases hc
    simp [hb, this, hk]
  · have : ∃ j, j < k ∧ x.getLsbD j = true := ⟨i, h, hb⟩
    have h1 : ¬ k < i := by omega
    have h2 : (1#64).getLsbD (k - i) = false := by
      have : k - i ≠ 0 := by omega
      simp [BitVec.getLsbD_one, this]
    rw [h2]
    simp [this, hk]
theorem not_neg (x : BitVec 64) : ~~~(-x) = x - 1#64 := by
  refine BitVec.eq_of_toNat_eq ?_
  rw [BitVec.toNat_not, BitVec.toNat_neg, BitVec.toNat_sub]
  have := x.isLt
  have e : (1#64).toNat = 1 := rfl
  rw [e]; omega
/-- A set without its lowest number. -/
theorem and_pred (x : BitVec 64) (i : Nat) (hi : i < 64) (hb : x.getLsbD i = true) (hl : ∀ j, j < i → x.getLsbD j = false) (k : Nat) : (x &&& (x - 1#64)).getLsbD k = (x.getLsbD k && !decide (k = i)) := by
  by_cases hk : k < 64
  · rw [← not_neg, BitVec.getLsbD_and, BitVec.getLsbD_not, BitVec.getLsbD_neg]
    rcases Nat.lt_trichotomy k i with h | h | h
    · rw [hl k h]; simp
    · subst h
      have : ¬ ∃ j, j < k ∧ x.getLsbD j = true := fun ⟨j, hj, hc⟩ => by rw [hl j hj] at hc; cases hc
      simp [this, hk]
    · have : ∃ j, j < k ∧ x.getLsbD j = true := ⟨i, h, hb⟩
      have h1 : k ≠ i := by omega
      cases hx : x.getLsbD k
      · rfl
      · simp only [this, hk, h1, decide_true, decide_false, Bool.not_false, Bool.and_true, Bool.not_true, Bool.xor_true]
  · rw [BitVec.getLsbD_of_ge _ _ (by omega), BitVec.getLsbD_of_ge _ _ (by omega)]; rfl
def tz (x : BitVec 64) : Nat := ((List.range 64).find? (x.getLsbD ·)).getD 64
theorem tz_eq (x : BitVec 64) (i : Nat) (hi : i < 64) (hb : x.getLsbD i = true) (hl : ∀ j, j < i → x.getLsbD j = false) : tz x = i := by
  unfold tz
  have : (List.range 64).find? (x.getLsbD ·) = some i := by
    rw [List.find?_range_eq_some]
    exact ⟨hb, by simpa using hi, fun j hj => by simp [hl j hj]⟩
  rw [this]; rfl
end Go.Proofs.YtcelailgedndnaaGreatS
namespace Go.Proofs.YtcelailgedndnaaGreatS
open Go.RowKit
/-! The numbers of a set, rising; how many they are. -/
def ids (x : BitVec 64) : List Nat := (List.range 64).filter (x.getLsbD ·)
theorem ids_zero : ids 0 = [] := by
  unfold ids
  rw [List.filter_eq_nil_iff]
  intro i _
  show ¬ (0#64).getLsbD i = true
  simp
theorem ids_cons (x : BitVec 64) (i : Nat) (hi : i < 64) (hb : x.getLsbD i = true) (hl : ∀ j, j < i → x.getLsbD j = false) : ids x = i :: ids (x &&& (x - 1#64)) := by
  have hp := and_pred x i hi hb hl
  unfold ids
  have e : List.range 64 = List.range i ++ i :: (List.range' (i + 1) (63 - i)) := by
    rw [List.range_eq_range', List.range_eq_range']
    have h1 : List.range' 0 64 = List.range' 0 i ++ List.range' i (64 - i) := by
      have := List.range'_append (s := 0) (m := i) (n := 64 - i) (step := 1)
      rw [Nat.zero_add, Nat.one_mul] at this
      rw [this, show i + (64 - i) = 64 by omega]
    rw [h1, show 64 - i = (63 - i) + 1 by omega, List.range'_succ]
  rw [e, List.filter_append, List.filter_append, List.filter_cons, List.filter_cons, hp i]
  have h1 : (List.range i).filter (x.getLsbD ·) = [] := by
    rw [List.filter_eq_nil_iff]; intro j hj
    rw [hl j (List.mem_range.1 hj)]; simp
  have h2 : (List.range i).filter ((x &&& (x - 1#64)).getLsbD ·) = [] := by
    rw [List.filter_eq_nil_iff]; intro j hj
    rw [hp j, hl j (List.mem_range.1 hj)]; simp
  have h3 : (List.range' (i + 1) (63 - i)).filter ((x &&& (x - 1#64)).getLsbD ·) = (List.range' (i + 1) (63 - i)).filter (x.getLsbD ·) := by
    refine List.filter_congr fun j hj => ?_
    have := (List.mem_range'_1.1 hj).1
    rw [hp j, decide_eq_false (by omega : ¬ j = i)]; simp
  rw [h1, h2, h3]
  simp [hb]
/-! How many there are, as the machine reckons it. -/
def rep : Nat → Nat → Nat
  | 0, _ => 0
  | n + 1, d => 256 * rep n d + d
theorem land256 (h c m d : Nat) (hc : c < 256) (hd : d < 256) : (256 * h + c) &&& (256 * m + d) = 256 * (h &&& m) + (c &&& d) := by
  refine Nat.eq_of_testBit_eq fun j => ?_
  have hcd : (c &&& d) < 2 ^ 8 := Nat.lt_of_le_of_lt Nat.and_le_left hc
  rw [Nat.testBit_and, show (256 : Nat) = 2 ^ 8 from rfl, Nat.testBit_two_pow_mul_add _ (show c < 2 ^ 8 from hc), Nat.testBit_two_pow_mul_add _ (show d < 2 ^ 8 from hd), Nat.testBit_two_pow_mul_add _ hcd]
  split
  · rw [Nat.testBit_and]
  · rw [Nat.testBit_and]
def s1 (n x : Nat) : Nat := (x / 2 &&& rep n 85) + (x &&& rep n 85)
def s2 (n x : Nat) : Nat := (x / 4 &&& rep n 51) + (x &&& rep n 51)
def s3 (n x : Nat) : Nat := (x / 16 + x) &&& rep n 15
def p1 (c : Nat) : Nat := (c / 2 &&& 85) + (c &&& 85)
def p2 (c : Nat) : Nat := (c / 4 &&& 51) + (c &&& 51)
def p3 (c : Nat) : Nat := (c / 16 + c) &&& 15
theorem b1 : ∀ c : Fin 256, ∀ b : Fin 2, ((128 * b.val + c.val / 2) &&& 85) = (c.val / 2 &&& 85) := by decide +kernel
theorem b2 : ∀ c : Fin 256, ∀ b : Fin 4, ((64 * b.val + c.val / 4) &&& 51) = (c.val / 4 &&& 51) := by decide +kernel
theorem b3 : ∀ c : Fin 256, ∀ b : Fin 5, ((16 * b.val + (p2 (p1 c.val)) / 16 + (p2 (p1 c.val))) &&& 15) = p3 (p2 (p1 c.val)) := by decide +kernel
theorem bd : ∀ c : Fin 256, p1 c.val < 256 ∧ p2 (p1 c.val) < 128 ∧ p2 (p1 c.val) % 16 ≤ 4 ∧ p2 (p1 c.val) / 16 ≤ 4 ∧ p3 (p2 (p1 c.val)) = ((List.range 8).filter (c.val.testBit ·)).length := by decide +kernel
theorem s1_step (n h c : Nat) (hc : c < 256) : s1 (n + 1) (256 * h + c) = 256 * s1 n h + p1 c := by
  have k := b1 ⟨c, hc⟩ ⟨h % 2, by omega⟩
  simp only at k
  unfold s1 p1
  rw [show rep (n + 1) 85 = 256 * rep n 85 + 85 from rfl]
  have e : (256 * h + c) / 2 = 256 * (h / 2) + (128 * (h % 2) + c / 2) := by omega
  rw [e, land256 _ _ _ _ (by omega) (by decide), land256 _ _ _ _ hc (by decide), k]
  omega
theorem s2_step (n h c : Nat) (hc : c < 256) : s2 (n + 1) (256 * h + c) = 256 * s2 n h + p2 c := by
  have k := b2 ⟨c, hc⟩ ⟨h % 4, by omega⟩
  simp only at k
  unfold s2 p2
  rw [show rep (n + 1) 51 = 256 * rep n 51 + 51 from rfl]
  have e : (256 * h + c) / 4 = 256 * (h / 4) + (64 * (h % 4) + c / 4) := by omega
  rw [e, land256 _ _ _ _ (by omega) (by decide), land256 _ _ _ _ hc (by decide), k]
  omega
theorem s12_low (n x : Nat) : s2 n (s1 n x) % 16 ≤ 4 := by
  cases n with
  | zero => simp [s1, s2, rep]
  | succ n =>
    obtain ⟨h, c, hc, rfl⟩ : ∃ h c, c < 256 ∧ x = 256 * h + c := ⟨x / 256, x % 256, by omega, by omega⟩
    have k := bd ⟨c, hc⟩
    simp only at k
    rw [s1_step n h c hc, s2_step _ _ _ k.1]
    have := k.2.2.1
    omega
def T8 (n x : Nat) : Nat := s3 n (s2 n (s1 n x))
theorem T8_step (n h c : Nat) (hc : c < 256) : T8 (n + 1) (256 * h + c) = 256 * T8 n h + ((List.range 8).filter (c.testBit ·)).length := by
  unfold T8
  have k := bd ⟨c, hc⟩
  simp only at k
  rw [s1_step n h c hc, s2_step _ _ _ k.1, ← k.2.2.2.2]
  have hl := s12_low n h
  generalize s2 n (s1 n h) = y at *
  have k3 := b3 ⟨c, hc⟩ ⟨y % 16, by omega⟩
  simp only at k3
  unfold s3
  rw [show rep (n + 1) 15 = 256 * rep n 15 + 15 from rfl]
  have e : (256 * y + p2 (p1 c)) / 16 + (256 * y + p2 (p1 c)) = 256 * (y / 16 + y) + (16 * (y % 16) + p2 (p1 c) / 16 + p2 (p1 c)) := by omega
  rw [e, land256 _ _ _ _ (by omega) (by decide), k3]
def cnt (n x : Nat) : Nat := ((List.range n).filter (x.testBit ·)).length
theorem cnt_step (n h c : Nat) (hc : c < 256) : cnt (8 + n) (256 * h + c) = cnt 8 c + cnt n h := by
  unfold cnt
  rw [List.range_add, List.filter_append, List.length_append, List.filter_map, List.length_map]
  congr 1
  · congr 1
    refine List.filter_congr fun j hj => ?_
    have := List.mem_range.1 hj
    rw [show (256 : Nat) = 2 ^ 8 from rfl, Nat.testBit_two_pow_mul_add _ (show c < 2 ^ 8 from hc), if_pos this]
  · congr 1
    refine List.filter_congr fun j _ => ?_
    show (256 * h + c).testBit (8 + j) = h.testBit j
    rw [show (256 : Nat) = 2 ^ 8 from rfl, Nat.testBit_two_pow_mul_add _ (show c < 2 ^ 8 from hc), if_neg (by omega), Nat.add_sub_cancel_left]
theorem cnt_le (c : Nat) (n : Nat) : cnt n c ≤ n := by
  unfold cnt
  have := List.length_filter_le (c.testBit ·) (List.range n)
  simpa using this
def fold3 (t : Nat) : Nat :=
  let y1 := (t + t / 256) % 18446744073709551616
  let y2 := (y1 + y1 / 65536) % 18446744073709551616
  let y3 := (y2 + y2 / 4294967296) % 18446744073709551616
  y3 % 128
theorem f1 (A3 q0 q1 q2 : Nat) (h0 : q0 ≤ 8) (h1 : q1 ≤ 8) (h2 : q2 ≤ 8) : (256 * (256 * (256 * A3 + q2) + q1) + q0 + (256 * (256 * A3 + q2) + q1)) / 65536 = (256 * A3 + q2) + A3 := by omega
theorem f2 (a b c d l : Nat) (h : l < 4294967296) : (4294967296 * (a + b + c + d) + l) / 4294967296 = a + b + c + d := by omega
theorem fold3_sum (q0 q1 q2 q3 q4 q5 q6 q7 A1 A2 A3 A4 A5 A6 : Nat) (h0 : q0 ≤ 8) (h1 : q1 ≤ 8) (h2 : q2 ≤ 8) (h3 : q3 ≤ 8) (h4 : q4 ≤ 8) (h5 : q5 ≤ 8) (h6 : q6 ≤ 8) (h7 : q7 ≤ 8)
    (e6 : A6 = 256 * q7 + q6) (e5 : A5 = 256 * A6 + q5) (e4 : A4 = 256 * A5 + q4) (e3 : A3 = 256 * A4 + q3) (e2 : A2 = 256 * A3 + q2) (e1 : A1 = 256 * A2 + q1) : fold3 (256 * A1 + q0) = q0 + q1 + q2 + q3 + q4 + q5 + q6 + q7 := by
  have b6 : A6 ≤ 2056 := by omega
  have b5 : A5 ≤ 526344 := by omega
  have b4 : A4 ≤ 134744072 := by omega
  have b3 : A3 ≤ 34494482440 := by omega
  have b2 : A2 ≤ 8830587504648 := by omega
  have b1 : A1 ≤ 2260630401189896 := by omega
  have d1 : (256 * A1 + q0) / 256 = A1 := by omega
  have m1 : (256 * A1 + q0 + A1) % 18446744073709551616 = 256 * A1 + q0 + A1 := Nat.mod_eq_of_lt (by omega)
  have d2 : (256 * A1 + q0 + A1) / 65536 = A2 + A3 := by
    rw [e1, e2]; exact f1 A3 q0 q1 q2 h0 h1 h2
  have m2 : (256 * A1 + q0 + A1 + (A2 + A3)) % 18446744073709551616 = 256 * A1 + q0 + A1 + (A2 + A3) := Nat.mod_eq_of_lt (by omega)
  have d3 : (256 * A1 + q0 + A1 + (A2 + A3)) / 4294967296 = A4 + A5 + A6 + q7 := by
    have low : 16777216 * (q3 + q4 + q5 + q6) + 65536 * (q2 + q3 + q4 + q5) + 256 * (q1 + q2 + q3 + q4) + (q0 + q1 + q2 + q3) < 4294967296 := by
      have g3 : q3 + q4 + q5 + q6 ≤ 32 := by omega
      have g2 : q2 + q3 + q4 + q5 ≤ 32 := by omega
      have g1 : q1 + q2 + q3 + q4 ≤ 32 := by omega
      have g0 : q0 + q1 + q2 + q3 ≤ 32 := by omega
      generalize q3 + q4 + q5 + q6 = x3 at *
      generalize q2 + q3 + q4 + q5 = x2 at *
      generalize q1 + q2 + q3 + q4 = x1 at *
      generalize q0 + q1 + q2 + q3 = x0 at *
      clear e1 e2 e3 e4 e5 e6 b1 b2 b3 b4 b5 b6 d1 m1 d2 m2
      omega
    have e : 256 * A1 + q0 + A1 + (A2 + A3) = 4294967296 * (A4 + A5 + A6 + q7) + (16777216 * (q3 + q4 + q5 + q6) + 65536 * (q2 + q3 + q4 + q5) + 256 * (q1 + q2 + q3 + q4) + (q0 + q1 + q2 + q3)) := by
      clear low h0 h1 h2 h3 h4 h5 h6 h7 b1 b2 b3 b4 b5 b6 d1 m1 d2 m2
      subst e1; subst e2; subst e3; subst e4; subst e5; subst e6
      omega
    rw [e]; exact f2 _ _ _ _ _ low
  have m3 : (256 * A1 + q0 + A1 + (A2 + A3) + (A4 + A5 + A6 + q7)) % 18446744073709551616 = 256 * A1 + q0 + A1 + (A2 + A3) + (A4 + A5 + A6 + q7) := Nat.mod_eq_of_lt (by omega)
  have hS : q0 + q1 + q2 + q3 + q4 + q5 + q6 + q7 < 128 := by omega
  have e : 256 * A1 + q0 + A1 + (A2 + A3) + (A4 + A5 + A6 + q7) = 128 * (2 * (A1 + A2 + A3 + A4 + A5 + A6 + q7)) + (q0 + q1 + q2 + q3 + q4 + q5 + q6 + q7) := by omega
  unfold fold3
  simp only [d1, m1, d2, m2, d3, m3]
  rw [e, Nat.mul_add_mod, Nat.mod_eq_of_lt hS]
theorem T8_cnt (x : Nat) (hx : x < 18446744073709551616) : fold3 (T8 8 x) = cnt 64 x := by
  obtain ⟨h0, c0, l0, rfl⟩ : ∃ h c, c < 256 ∧ x = 256 * h + c := ⟨x / 256, x % 256, by omega, by omega⟩
  obtain ⟨h1, c1, l1, rfl⟩ : ∃ h c, c < 256 ∧ h0 = 256 * h + c := ⟨h0 / 256, h0 % 256, by omega, by omega⟩
  obtain ⟨h2, c2, l2, rfl⟩ : ∃ h c, c < 256 ∧ h1 = 256 * h + c := ⟨h1 / 256, h1 % 256, by omega, by omega⟩
  obtain ⟨h3, c3, l3, rfl⟩ : ∃ h c, c < 256 ∧ h2 = 256 * h + c := ⟨h2 / 256, h2 % 256, by omega, by omega⟩
  obtain ⟨h4, c4, l4, rfl⟩ : ∃ h c, c < 256 ∧ h3 = 256 * h + c := ⟨h3 / 256, h3 % 256, by omega, by omega⟩
  obtain ⟨h5, c5, l5, rfl⟩ : ∃ h c, c < 256 ∧ h4 = 256 * h + c := ⟨h4 / 256, h4 % 256, by omega, by omega⟩
  obtain ⟨h6, c6, l6, rfl⟩ : ∃ h c, c < 256 ∧ h5 = 256 * h + c := ⟨h5 / 256, h5 % 256, by omega, by omega⟩
  obtain ⟨h7, c7, l7, rfl⟩ : ∃ h c, c < 256 ∧ h6 = 256 * h + c := ⟨h6 / 256, h6 % 256, by omega, by omega⟩
  have hz : h7 = 0 := by omega
  subst hz
  have z : T8 0 0 = 0 := rfl
  rw [T8_step _ _ _ l0, T8_step _ _ _ l1, T8_step _ _ _ l2, T8_step _ _ _ l3, T8_step _ _ _ l4, T8_step _ _ _ l5, T8_step _ _ _ l6, T8_step _ _ _ l7, z]
  have c64 : ∀ x, cnt 64 x = cnt (8 + (8 + (8 + (8 + (8 + (8 + (8 + (8 + 0)))))))) x := fun _ => rfl
  rw [c64, cnt_step _ _ _ l0, cnt_step _ _ _ l1, cnt_step _ _ _ l2, cnt_step _ _ _ l3, cnt_step _ _ _ l4, cnt_step _ _ _ l5, cnt_step _ _ _ l6, cnt_step _ _ _ l7]
  have z2 : cnt 0 0 = 0 := rfl
  rw [z2]
  have := fold3_sum (cnt 8 c0) (cnt 8 c1) (cnt 8 c2) (cnt 8 c3) (cnt 8 c4) (cnt 8 c5) (cnt 8 c6) (cnt 8 c7) _ _ _ _ _ _ (cnt_le _ _) (cnt_le _ _) (cnt_le _ _) (cnt_le _ _) (cnt_le _ _) (cnt_le _ _) (cnt_le _ _) (cnt_le _ _) rfl rfl rfl rfl rfl rfl
  show fold3 (256 * (256 * (256 * (256 * (256 * (256 * (256 * (256 * 0 + cnt 8 c7) + cnt 8 c6) + cnt 8 c5) + cnt 8 c4) + cnt 8 c3) + cnt 8 c2) + cnt 8 c1) + cnt 8 c0) = _
  rw [Nat.mul_zero, Nat.zero_add, this]
  omega
theorem cnt_ids (x : BitVec 64) : cnt 64 x.toNat = (ids x).length := rfl
end Go.Proofs.YtcelailgedndnaaGreatS
namespace Go.Proofs.YtcelailgedndnaaGreatS
open Go.RowKit
/-! Constants and pieces of the reckoning of how many. -/
theorem rep55 : rep 8 85 = 6148914691236517205 := rfl
theorem rep33 : rep 8 51 = 3689348814741910323 := rfl
theorem rep0f : rep 8 15 = 1085102592571150095 := rfl
theorem U_and (x : BitVec 64) (c : Int) (m : Nat) (hc : c = (m : Int)) (hm : m < 18446744073709551616) : bits .and .u64 (U x) c = U (x &&& BitVec.ofNat 64 m) := by
  have : c = U (BitVec.ofNat 64 m) := by unfold U; rw [hc, BitVec.toNat_ofNat, Nat.mod_eq_of_lt hm]
  rw [this, and_U]
theorem m55 (y : BitVec 64) : bits .and .u64 (U y) 6148914691236517205 = U (y &&& 6148914691236517205#64) := U_and y _ 6148914691236517205 rfl (by decide)
theorem m33 (y : BitVec 64) : bits .and .u64 (U y) 3689348814741910323 = U (y &&& 3689348814741910323#64) := U_and y _ 3689348814741910323 rfl (by decide)
theorem m0f (y : BitVec 64) : bits .and .u64 (U y) 1085102592571150095 = U (y &&& 1085102592571150095#64) := U_and y _ 1085102592571150095 rfl (by decide)
def z1 (x : BitVec 64) : BitVec 64 := ((x >>> 1) &&& 6148914691236517205#64) + (x &&& 6148914691236517205#64)
def z2 (x : BitVec 64) : BitVec 64 := ((x >>> 2) &&& 3689348814741910323#64) + (x &&& 3689348814741910323#64)
def z3 (x : BitVec 64) : BitVec 64 := ((x >>> 4) + x) &&& 1085102592571150095#64
theorem z1_nat (x : BitVec 64) : (z1 x).toNat = s1 8 x.toNat := by
  unfold z1 s1
  rw [rep55, BitVec.toNat_add, BitVec.toNat_and, BitVec.toNat_and, BitVec.toNat_ushiftRight, Nat.shiftRight_eq_div_pow]
  have e : (6148914691236517205#64).toNat = 6148914691236517205 := rfl
  rw [e]
  have h1 : x.toNat / 2 ^ 1 &&& 6148914691236517205 ≤ 6148914691236517205 := Nat.and_le_right
  have h2 : x.toNat &&& 6148914691236517205 ≤ 6148914691236517205 := Nat.and_le_right
  exact Nat.mod_eq_of_lt (by omega)
theorem z2_nat (x : BitVec 64) : (z2 x).toNat = s2 8 x.toNat := by
  unfold z2 s2
  rw [rep33, BitVec.toNat_add, BitVec.toNat_and, BitVec.toNat_and, BitVec.toNat_ushiftRight, Nat.shiftRight_eq_div_pow]
  have e : (3689348814741910323#64).toNat = 3689348814741910323 := rfl
  rw [e]
  have h1 : x.toNat / 2 ^ 2 &&& 3689348814741910323 ≤ 3689348814741910323 := Nat.and_le_right
  have h2 : x.toNat &&& 3689348814741910323 ≤ 3689348814741910323 := Nat.and_le_right
  exact Nat.mod_eq_of_lt (by omega)
theorem z3_nat (x : BitVec 64) (h : x.toNat ≤ 7378697629483820646) : (z3 x).toNat = s3 8 x.toNat := by
  unfold z3 s3
  rw [rep0f, BitVec.toNat_and, BitVec.toNat_add, BitVec.toNat_ushiftRight, Nat.shiftRight_eq_div_pow]
  have e : (1085102592571150095#64).toNat = 1085102592571150095 := rfl
  rw [e, Nat.mod_eq_of_lt (by omega)]
def z4 (x : BitVec 64) (k : Nat) : BitVec 64 := x + x >>> k
theorem z4_nat (x : BitVec 64) (k : Nat) : (z4 x k).toNat = (x.toNat + x.toNat / 2 ^ k) % 18446744073709551616 := by
  unfold z4
  rw [BitVec.toNat_add, BitVec.toNat_ushiftRight, Nat.shiftRight_eq_div_pow]
def pc (x : BitVec 64) : BitVec 64 := z4 (z4 (z4 (z3 (z2 (z1 x))) 8) 16) 32
theorem pc_low (x : BitVec 64) : (pc x).toNat % 128 = (ids x).length := by
  have h2 : (z2 (z1 x)).toNat ≤ 7378697629483820646 := by
    rw [z2_nat]; unfold s2; rw [rep33]
    have h1 : (z1 x).toNat / 4 &&& 3689348814741910323 ≤ 3689348814741910323 := Nat.and_le_right
    have h2 : (z1 x).toNat &&& 3689348814741910323 ≤ 3689348814741910323 := Nat.and_le_right
    omega
  have := T8_cnt x.toNat x.isLt
  unfold pc
  rw [z4_nat, z4_nat, z4_nat, z3_nat _ h2, z2_nat, z1_nat]
  exact this
theorem ids_le (x : BitVec 64) : (ids x).length ≤ 64 := cnt_le x.toNat 64
theorem conv_pc (x : BitVec 64) : bits .and .i64 (IntKind.i64.wrap (U (pc x))) 127 = ((ids x).length : Int) := by
  have e : BitVec.ofInt 64 (IntKind.i64.wrap (U (pc x))) = pc x := by
    refine BitVec.eq_of_toNat_eq ?_
    have := (pc x).isLt
    rw [BitVec.toNat_ofInt, IntKind.wrap_i64]; unfold U; omega
  show IntKind.i64.wrap (((BitVec.ofInt 64 (IntKind.i64.wrap (U (pc x)))) &&& (BitVec.ofInt 64 127)).toNat : Int) = _
  rw [e, BitVec.toNat_and]
  have e2 : (BitVec.ofInt 64 127).toNat = 2 ^ 7 - 1 := rfl
  rw [e2, Nat.and_two_pow_sub_one_eq_mod, show (2 : Nat) ^ 7 = 128 from rfl, pc_low]
  have := ids_le x
  rw [IntKind.wrap_i64]; omega
set_option linter.unusedVariables false
set_option linter.unusedSimpArgs false
attribute [local irreducible] Ops Ex Spec T V QO OA Rn
theorem ones (x : BitVec 64) : Spec Tryz.prog 133 [.int .u64 (U x)] 1 (X := Unit) (fun _ => .int .i64 ((ids x).length : Int)) (fun _ => True) (fun _ => 1) := by
  have a1 : IntKind.u64.wrap (bits .and .u64 ((U x).fdiv (2 ^ min (Int.toNat 1) IntKind.u64.bits)) 6148914691236517205 + bits .and .u64 (U x) 6148914691236517205) = U (z1 x) := by
    rw [show (U x).fdiv (2 ^ min (Int.toNat 1) IntKind.u64.bits) = U (x >>> 1) from shr_U x 1 (by decide), m55, m55, add_U]; rfl
  have a2 : ∀ x, IntKind.u64.wrap (bits .and .u64 ((U x).fdiv (2 ^ min (Int.toNat 2) IntKind.u64.bits)) 3689348814741910323 + bits .and .u64 (U x) 3689348814741910323) = U (z2 x) := fun x => by
    rw [show (U x).fdiv (2 ^ min (Int.toNat 2) IntKind.u64.bits) = U (x >>> 2) from shr_U x 2 (by decide), m33, m33, add_U]; rfl
  have a3 : ∀ x, bits .and .u64 (IntKind.u64.wrap ((U x).fdiv (2 ^ min (Int.toNat 4) IntKind.u64.bits) + U x)) 1085102592571150095 = U (z3 x) := fun x => by
    rw [show (U x).fdiv (2 ^ min (Int.toNat 4) IntKind.u64.bits) = U (x >>> 4) from shr_U x 4 (by decide), add_U, m0f]; rfl
  have a4 : ∀ x, IntKind.u64.wrap (U x + (U x).fdiv (2 ^ min (Int.toNat 8) IntKind.u64.bits)) = U (z4 x 8) := fun x => by
    rw [show (U x).fdiv (2 ^ min (Int.toNat 8) IntKind.u64.bits) = U (x >>> 8) from shr_U x 8 (by decide), add_U]; rfl
  have a5 : ∀ x, IntKind.u64.wrap (U x + (U x).fdiv (2 ^ min (Int.toNat 16) IntKind.u64.bits)) = U (z4 x 16) := fun x => by
    rw [show (U x).fdiv (2 ^ min (Int.toNat 16) IntKind.u64.bits) = U (x >>> 16) from shr_U x 16 (by decide), add_U]; rfl
  have a6 : ∀ x, IntKind.u64.wrap (U x + (U x).fdiv (2 ^ min (Int.toNat 32) IntKind.u64.bits)) = U (z4 x 32) := fun x => by
    rw [show (U x).fdiv (2 ^ min (Int.toNat 32) IntKind.u64.bits) = U (x >>> 32) from shr_U x 32 (by decide), add_U]; rfl
  refine spec_of Tryz.func133 rfl Tryz.ntmps133 rfl ?_
  repeat' (first | (refine rG 0 [0] ?_; ((try (refine wK ?_; intro _)))) | (refine rG 1 [0] ?_; ((try (refine wK ?_; intro _)))) | refine wC ?_ | (refine ex_split rfl ?_ ?_ <;> intro hc))
  rw [a1]
  repeat' (first | (refine rG 2 [0] ?_; ((try (refine wK ?_; intro _)))) | refine wC ?_ | (refine ex_split rfl ?_ ?_ <;> intro hc))
  rw [a2]
  repeat' (first | (refine rG 3 [0] ?_; ((try (refine wK ?_; intro _)))) | refine wC ?_ | (refine ex_split rfl ?_ ?_ <;> intro hc))
  rw [a3]
  repeat' (first | (refine rG 4 [0] ?_; ((try (refine wK ?_; intro _)))) | refine wC ?_ | (refine ex_split rfl ?_ ?_ <;> intro hc))
  rw [a4]
  repeat' (first | (refine rG 5 [0] ?_; ((try (refine wK ?_; intro _)))) | refine wC ?_ | (refine ex_split rfl ?_ ?_ <;> intro hc))
  rw [a5]
  repeat' (first | (refine rG 6 [0] ?_; ((try (refine wK ?_; intro _)))) | refine wC ?_ | (refine ex_split rfl ?_ ?_ <;> intro hc))
  rw [a6, ← conv_pc]
  repeat' (first | (refine rG 7 [2] ?_; ((try (refine wK ?_; intro _)))) | refine wC ?_ | (refine ex_split rfl ?_ ?_ <;> intro hc))
  exact fin (.inr rfl) () (resl1 rfl (rv_tmp rfl)) trivial (Ent.refl _)
theorem count (x : BitVec 64) : Spec Tryz.prog 120 [.int .u64 (U x)] 1 (X := Unit) (fun _ => .int .i64 ((ids x).length : Int)) (fun _ => True) (fun _ => 1) := by
  refine spec_of Tryz.func120 rfl Tryz.ntmps120 rfl ?_
  repeat' (first | (refine rG 0 [0] ?_; ((try (refine wK ?_; intro _)))) | (refine rG 1 [2] ?_; ((try refine wO ?_) <;> (try (refine o_call (ones x) (by first | exact True.intro | (show _ < _; decide)) rfl rfl (fun _ _ => ?_))) <;> (try (refine wK ?_; intro _)))) | refine wC ?_ | (refine ex_split rfl ?_ ?_ <;> intro hc))
  exact fin (.inr rfl) () (resl1 rfl (rv_tmp rfl)) trivial (Ent.toOne _)
end Go.Proofs.YtcelailgedndnaaGreatS
namespace Go.Proofs.YtcelailgedndnaaGreatS
open Go.RowKit
set_option linter.unusedVariables false
set_option linter.unusedSimpArgs false
def bl (x y : BitVec 64) : Bool := decide (x &&& ~~~y = 0)
abbrev O : BitVec 64 := BitVec.allOnes 64
theorem bext (x y : BitVec 64) : x = y ↔ ∀ i, i < 64 → x.getLsbD i = y.getLsbD i := ⟨fun h i _ => by rw [h], fun h => BitVec.eq_of_getLsbD_eq h⟩
theorem bl_iff (x y : BitVec 64) : bl x y = true ↔ ∀ i, i < 64 → x.getLsbD i = true → y.getLsbD i = true := by
  unfold bl
  rw [decide_eq_true_eq, bext]
  refine forall_congr' fun i => forall_congr' fun hi => ?_
  show (x &&& ~~~y).getLsbD i = (0#64).getLsbD i ↔ _
  rw [BitVec.getLsbD_and, BitVec.getLsbD_not, BitVec.getLsbD_zero]
  cases x.getLsbD i <;> cases y.getLsbD i <;> simp [hi]
theorem gj (x y : BitVec 64) (i : Nat) : (x ||| y).getLsbD i = (x.getLsbD i || y.getLsbD i) := BitVec.getLsbD_or
theorem gm (x y : BitVec 64) (i : Nat) : (x &&& y).getLsbD i = (x.getLsbD i && y.getLsbD i) := BitVec.getLsbD_and
theorem gz (i : Nat) : (0 : BitVec 64).getLsbD i = false := BitVec.getLsbD_zero
theorem go_ (i : Nat) (h : i < 64) : O.getLsbD i = true := by rw [BitVec.getLsbD_allOnes]; exact decide_eq_true h
theorem jn2 (a b : BitVec 64) (i : Nat) : (jn [a, b] 0).getLsbD i = (a.getLsbD i || b.getLsbD i) := by simp only [jn, List.foldl_cons, List.foldl_nil, gj, gz, Bool.false_or]
theorem jn3 (a b c : BitVec 64) (i : Nat) : (jn [a, b, c] 0).getLsbD i = (a.getLsbD i || b.getLsbD i || c.getLsbD i) := by simp only [jn, List.foldl_cons, List.foldl_nil, gj, gz, Bool.false_or]
theorem mt2 (a b : BitVec 64) (i : Nat) (h : i < 64) : (mt [a, b] O).getLsbD i = (a.getLsbD i && b.getLsbD i) := by simp only [mt, List.foldl_cons, List.foldl_nil, gm, go_ i h, Bool.true_and]
theorem mt3 (a b c : BitVec 64) (i : Nat) (h : i < 64) : (mt [a, b, c] O).getLsbD i = (a.getLsbD i && b.getLsbD i && c.getLsbD i) := by simp only [mt, List.foldl_cons, List.foldl_nil, gm, go_ i h, Bool.true_and]
theorem U_ne (x y : BitVec 64) (h : x = y) : (U x != U y) = false := by rw [h]; simp
theorem U_is (x y : BitVec 64) (h : x = y) : (U x == U y) = true := by rw [h]; simp
def hs (m : BitVec 64) (k : Int) : Bool := !decide (m &&& bt k = 0)
theorem bt_get (k i : Nat) (hk : k < 64) (hi : i < 64) : (bt (k : Int)).getLsbD i = decide (i = k) := by
  unfold bt
  rw [if_pos ⟨by omega, by omega⟩, Int.toNat_natCast, BitVec.getLsbD_shiftLeft]
  by_cases h : i = k
  · subst h; simp [hk]
  · by_cases h2 : i < k
    · simp [h, h2]
    · have : i - k ≠ 0 := by omega
      simp [h, BitVec.getLsbD_one, this]
theorem hs_get (m : BitVec 64) (k : Nat) (hk : k < 64) : hs m (k : Int) = m.getLsbD k := by
  unfold hs
  cases h : m.getLsbD k with
  | true =>
    have : m &&& bt (k : Int) ≠ 0 := fun e => by
      have := congrArg (fun z => z.getLsbD k) e
      simp only [gm, bt_get k k hk hk, h] at this
      exact absurd this (by rw [show ((0 : BitVec 64).getLsbD k) = false from gz k]; simp)
    rw [decide_eq_false this]; rfl
  | false =>
    have : m &&& bt (k : Int) = 0 := (bext _ _).2 fun i hi => by
      rw [gm, bt_get k i hk hi, gz]
      by_cases e : i = k
      · subst e; rw [h]; rfl
      · simp [e]
    rw [decide_eq_true this]; rfl
theorem hs_out (m : BitVec 64) (k : Int) (h : k < 0 ∨ 64 ≤ k) : hs m k = false := by
  unfold hs bt
  rw [if_neg (by omega)]
  have : m &&& (0 : BitVec 64) = 0 := (bext _ _).2 fun i _ => by rw [gm, gz, Bool.and_false]
  rw [decide_eq_true this]; rfl
theorem filt_add {α : Type} (p q : α → Bool) (l : List α) : (l.filter fun x => p x || q x).length + (l.filter fun x => p x && q x).length = (l.filter p).length + (l.filter q).length := by
  induction l with
  | nil => rfl
  | cons x t ih => cases hp : p x <;> cases hq : q x <;> simp [List.filter_cons, hp, hq] <;> omega
theorem ids_add (a b : BitVec 64) : (ids (jn [a, b] 0)).length + (ids (mt [a, b] O)).length = (ids a).length + (ids b).length := by
  have h1 : ids (jn [a, b] 0) = (List.range 64).filter fun i => a.getLsbD i || b.getLsbD i := by
    unfold ids; exact List.filter_congr fun i _ => jn2 a b i
  have h2 : ids (mt [a, b] O) = (List.range 64).filter fun i => a.getLsbD i && b.getLsbD i := by
    unfold ids; exact List.filter_congr fun i hi => mt2 a b i (List.mem_range.1 hi)
  rw [h1, h2]; exact filt_add _ _ _
theorem ids_one0 : ∀ i : Fin 64, ids (1#64 <<< i.val) = [i.val] := by decide +kernel
theorem ids_bt (k : Nat) (hk : k < 64) : ids (bt (k : Int)) = [k] := by
  unfold bt
  rw [if_pos ⟨by omega, by omega⟩, Int.toNat_natCast]
  exact ids_one0 ⟨k, hk⟩
theorem off1 (k : Int) : off_ [k] 0 = bt k := (bext _ _).2 fun i _ => by simp only [off_, List.foldl_cons, List.foldl_nil, gj, gz, Bool.false_or]
theorem off2 (k : Int) : off_ [k, k] 0 = bt k := (bext _ _).2 fun i _ => by simp only [off_, List.foldl_cons, List.foldl_nil, gj, gz, Bool.false_or, Bool.or_self]
set_option linter.unusedVariables false
set_option linter.unusedSimpArgs false
attribute [local irreducible] Ops Ex Spec T V QO OA Rn
theorem belowV {a b : BitVec 64} {v : Bool} (h : bl a b = v) : Spec Tryz.prog 30 [.int .u64 (U a), .int .u64 (U b)] 1 (X := Unit) (fun _ => .bool v) (fun _ => True) (fun _ => 1) := by
  subst h; exact below a b
theorem join_ (H : HP) (a : Option Addr) (l : List (BitVec 64)) (cap m : Nat) {cs : List Value} [hr : RdC H a cs] (hm : m = l.length) (hcs : cs = us l) (hl : l.length ≤ 1000000) : Spec Tryz.prog 53 [.slice a m cap] H (X := Unit) (fun _ => .int .u64 (U (jn l 0))) (fun _ => True) (fun _ => H) := by
  subst hm; exact join H a l cap hcs hl
theorem hasV {m : BitVec 64} {k : Int} {v : Bool} (h : hs m k = v) : Spec Tryz.prog 85 [.int .u64 (U m), .int .i64 k] 1 (X := Unit) (fun _ => .bool v) (fun _ => True) (fun _ => 1) := by
  subst h; exact has m k
theorem ofE (H : HP) (a : Option Addr) (l : List Int) (cap m : Nat) (r : BitVec 64) {cs : List Value} [hr : RdC H a cs] (hm : m = l.length) (hcs : cs = ints .i64 l) (hl : l.length ≤ 1000000) (he : off_ l 0 = r) : Spec Tryz.prog 52 [.slice a m cap] H (X := Unit) (fun _ => .int .u64 (U r)) (fun _ => True) (fun _ => H) := by
  subst hm; subst he; exact of_ H a l cap hcs hl
theorem countE {x : BitVec 64} {n : Nat} (h : (ids x).length = n) : Spec Tryz.prog 120 [.int .u64 (U x)] 1 (X := Unit) (fun _ => .int .i64 (n : Int)) (fun _ => True) (fun _ => 1) := by
  subst h; exact count x
def wn (a lo hi : Int) : Int := lo + (if a.tmod (hi - lo + 1) < 0 then a.tmod (hi - lo + 1) + hi - lo + 1 else a.tmod (hi - lo + 1))
theorem wn_bd (a lo hi : Int) (h : lo ≤ hi) : lo ≤ wn a lo hi ∧ wn a lo hi ≤ hi := by
  have h1 := Int.tmod_lt_of_pos a (b := hi - lo + 1) (by omega)
  have h2 := Int.lt_tmod_of_pos a (b := hi - lo + 1) (by omega)
  unfold wn
  generalize a.tmod (hi - lo + 1) = q at *
  split <;> omega
theorem within (a lo hi : Int) (h : lo ≤ hi) (hlo : -4611686018427387904 ≤ lo) (hhi : hi ≤ 4611686018427387904) (hd : hi - lo ≤ 4611686018427387904) : Spec Tryz.prog 11 [.int .i64 a, .int .i64 lo, .int .i64 hi] 1 (X := Unit) (fun _ => .int .i64 (wn a lo hi)) (fun _ => True) (fun _ => 1) := by
  have e1 : IntKind.i64.wrap (IntKind.i64.wrap (hi - lo) + 1) = hi - lo + 1 := by rw [IntKind.wrap_i64, IntKind.wrap_i64]; omega
  have h1 := Int.tmod_lt_of_pos a (b := hi - lo + 1) (by omega)
  have h2 := Int.lt_tmod_of_pos a (b := hi - lo + 1) (by omega)
  have hne : IntKind.i64.wrap (IntKind.i64.wrap (hi - lo) + 1) ≠ 0 := by omega
  refine spec_of Tryz.func11 rfl Tryz.ntmps11 rfl ?_
  repeat' (first | (refine rG 0 [0, 1, 2] ?_; ((try (refine wK ?_; intro _)))) | (refine rG 1 [0, 1, 2] ?_; ((try (refine wK ?_; intro _)))) | (refine rG 2 [0, 1, 2, 14] ?_; ((try (refine wK ?_; intro _)))) | (refine rG 3 [0, 1] ?_; ((try (refine wK ?_; intro _)))) | (refine rG 4 [6] ?_; ((try (refine wK ?_; intro _)))) | refine wC ?_ | (refine ex_split rfl ?_ ?_ <;> intro hc))
  all_goals
    rw [e1] at *
    refine fin (.inr rfl) () (resl1 rfl (rv_tmp (congrArg (Value.int .i64) ?_))) trivial (Ent.refl _)
    unfold wn
    generalize a.tmod (hi - lo + 1) = q at *
  · have hq : q < 0 := by simpa using hc
    rw [if_pos hq]
    simp only [IntKind.wrap_i64]
    omega
  · have hq : ¬ q < 0 := by simpa using hc
    rw [if_neg hq]
    simp only [IntKind.wrap_i64]
    omega
end Go.Proofs.YtcelailgedndnaaGreatS
namespace Go.Proofs.YtcelailgedndnaaGreatS
open Go.RowKit
set_option linter.unusedVariables false
set_option linter.unusedSimpArgs false
def tk (c k x v n : Int) : Int := if k == 1 then IntKind.i64.wrap (x + n) else if k == 2 then IntKind.i64.wrap (x + v) else if k == 3 && (c == 0 || decide (v < x)) then v else if k == 4 && (c == 0 || decide (v > x)) then v else x
theorem jn2e (a b : BitVec 64) : jn [a, b] 0 = a ||| b := (bext _ _).2 fun i _ => by rw [jn2, gj]
abbrev Sk : Type := BitVec 64 × BitVec 64 × Int × Int × Int
def sc (s : Sk) : List Value := [.int .u64 (U s.1), .int .u64 (U s.2.1), .int .i64 s.2.2.1, .int .i64 s.2.2.2.1, .int .i64 s.2.2.2.2]
abbrev Rw : Type := Int × Int × Int × Int × BitVec 64
def rwc (r : Rw) : List Value := [.int .i64 r.1, .int .i64 r.2.1, .int .i64 r.2.2.1, .int .i64 r.2.2.2.1, .int .u64 (U r.2.2.2.2)]
theorem rwc_len (r : Rw) : (rwc r).length = 5 := rfl
theorem rwc_one (r : Rw) : ∀ v ∈ rwc r, v.oneCell' = true := by intro v hv; simp [rwc] at hv; rcases hv with rfl | rfl | rfl | rfl | rfl <;> rfl
/-- A pot: how many, the value, who. -/
abbrev Pt : Type := Int × Int × BitVec 64
def pcl (k : Int) (p : Pt) : List Value := [.int .i64 p.1, .int .i64 k, .int .i64 p.2.1, .int .u64 (U p.2.2)]
def tkn (f : BitVec 64) (tn : Int) (r : Rw) : Bool := hs f tn && bl r.2.2.2.2 f
def g1 (f : BitVec 64) (tn k : Int) (p : Pt) (r : Rw) : Pt := if tkn f tn r then (IntKind.i64.wrap (p.1 + 1), tk p.1 k p.2.1 r.2.2.1 1, p.2.2 ||| bt tn) else p
def gv (f : BitVec 64) (tn k : Int) (p : Pt) (l : List Rw) : Pt := l.foldl (g1 f tn k) p
def gn (f : BitVec 64) (tn : Int) (l : List Rw) : Nat := (l.filter (tkn f tn)).length
theorem gn_take (f : BitVec 64) (tn : Int) (l : List Rw) (i : Nat) (h : i < l.length) : gn f tn (l.take (i + 1)) = gn f tn (l.take i) + (if tkn f tn l[i] then 1 else 0) := by
  unfold gn
  rw [List.take_succ_eq_append_getElem h, List.filter_append, List.length_append, List.filter_cons]
  split <;> simp
theorem gv_take (f : BitVec 64) (tn k : Int) (p : Pt) (l : List Rw) (i : Nat) (h : i < l.length) : gv f tn k p (l.take (i + 1)) = g1 f tn k (gv f tn k p (l.take i)) l[i] := by
  unfold gv
  rw [List.take_succ_eq_append_getElem h, List.foldl_append]; rfl
theorem gn_le (f : BitVec 64) (tn : Int) (l : List Rw) : gn f tn l ≤ l.length := List.length_filter_le _ _
theorem sub_flat {α : Type} {cells : α → List Value} {sz : Nat} (h : ∀ x, (cells x).length = sz) (l : List α) (i : Nat) (hi : i < l.length) : sub (l.flatMap cells) (i * sz) sz = some (cells l[i]) := by
  have e := flat_sub h l i hi
  have hle : i * sz + sz ≤ (l.flatMap cells).length := by
    rw [flat_len h, ← Nat.succ_mul]; exact Nat.mul_le_mul_right _ hi
  unfold sub
  rw [if_pos hle, e]
def few (p : Pt) (s : Sk) : Bool := decide (((ids p.2.2).length : Int) < s.2.2.1)
def ep (s : Sk) (tick : Int) : Int × Bool := if decide (tick < 1) || decide (s.2.2.2.2 < 1) || (tick.tmod s.2.2.2.2 != 0) then (-1, false) else (IntKind.i64.wrap (IntKind.i64.wrap (tick.tdiv s.2.2.2.2) - 1), true)
set_option linter.unusedVariables false
set_option linter.unusedSimpArgs false
attribute [local irreducible] Ops Ex Spec T V QO OA Rn
theorem tick (b : Nat) (c n k v : Int) (w : Value) (t) : Spec Tryz.prog 147 [.pointer (some ⟨b, 0, none⟩), .int .i64 n] (cl true b [.int .i64 c, .int .i64 k, .int .i64 v, w] t (0, 0)) (X := Unit) (fun _ => .tuple #[]) (fun _ => True) (fun _ => cl true b [.int .i64 (IntKind.i64.wrap (c + n)), .int .i64 k, .int .i64 v, w] t (0, 0)) := by
  refine spec_of Tryz.func147 rfl Tryz.ntmps147 rfl ?_
  repeat' (first | (refine rG 0 [] ?_; ((try (refine wK ?_; intro _)))) | refine wC ?_ | (refine ex_split rfl ?_ ?_ <;> intro hc))
  (try dsimp only [spl, andThen, Nat.zero_add, Nat.add_zero, Nat.reduceAdd])
  exact fin (.inl rfl) () (resl0 rfl) trivial ent_take
set_option maxHeartbeats 4000000 in
theorem take (b : Nat) (c k x v n : Int) (w : Value) (t) : Spec Tryz.prog 136 [.pointer (some ⟨b, 0, none⟩), .int .i64 v, .int .i64 n] (cl true b [.int .i64 c, .int .i64 k, .int .i64 x, w] t (0, 0)) (X := Unit) (fun _ => .tuple #[]) (fun _ => True) (fun _ => cl true b [.int .i64 (IntKind.i64.wrap (c + n)), .int .i64 k, .int .i64 (tk c k x v n), w] t (0, 0)) := by
  refine spec_of Tryz.func136 rfl Tryz.ntmps136 rfl ?_
  repeat' (first | (refine rG 0 [0, 1, 2, 6] ?_; ((try (refine wK ?_; intro _)))) | (refine rG 1 [0, 1, 2, 6, 13] ?_; ((try (refine wK ?_; intro _)))) | (refine rG 2 [0, 2] ?_; ((try (refine wK ?_; intro _)))) | (refine rG 3 [0, 1, 2, 6, 27] ?_; ((try (refine wK ?_; intro _)))) | (refine rG 4 [0, 2] ?_; ((try (refine wK ?_; intro _)))) | (refine rG 5 [0, 1, 2, 6, 41] ?_; ((try refine wO ?_) <;> (repeat' (refine g_split rfl (by decide) rfl (by decide) ?_ ?_ <;> intro hc <;> (try refine wO ?_))) <;> (try (refine wK ?_; intro _)))) | (refine rG 6 [0, 1, 2, 41] ?_; ((try refine wO ?_) <;> (repeat' (refine g_split rfl (by decide) rfl (by decide) ?_ ?_ <;> intro hc <;> (try refine wO ?_))) <;> (try (refine wK ?_; intro _)))) | (refine rG 7 [0, 2] ?_; ((try (refine wK ?_; intro _)))) | (refine rG 8 [] ?_; ((try refine wO ?_) <;> (try (refine o_callB (by first | exact True.intro | (show _ < _; decide)) rfl rfl (tick _ _ _ _ _ _ _) (fun _ _ => ?_))) <;> (try (refine wK ?_; intro _)))) | refine wC ?_ | (refine ex_split rfl ?_ ?_ <;> intro hc))
  all_goals (try dsimp only [spl, andThen, Nat.zero_add, Nat.add_zero, Nat.reduceAdd])
  all_goals exact fin (.inl rfl) () (resl0 rfl) trivial (ent_cl (by simp_all [tk]; try omega))
theorem add1 (b : Nat) (c k x v : Int) (w : Value) (t) (R : HP) (a : Option Addr) (cap : Nat) [hr : RdC R a [Value.int .i64 v]] : Spec Tryz.prog 126 [.pointer (some ⟨b, 0, none⟩), .slice a 1 cap] (cl true b [.int .i64 c, .int .i64 k, .int .i64 x, w] t (0, 0) * R) (X := Unit) (fun _ => .tuple #[]) (fun _ => True) (fun _ => cl true b [.int .i64 (IntKind.i64.wrap (c + 1)), .int .i64 k, .int .i64 (tk c k x v 1), w] t (0, 0) * R) := by
  refine spec_of Tryz.func126 rfl Tryz.ntmps126 rfl ?_
  refine Ex.rd_some (a := a) (l := [Value.int .i64 v]) (by simp) (fun ad ha => ?_)
  subst ha
  have hv : ([Value.int .i64 v])[(0 : Int).toNat * 1]? = some (.int .i64 v) := rfl
  have e1 : IntKind.i64.wrap (0 + 1) = 1 := rfl
  have d0 : decide ((0 : Int) < 1) = true := rfl
  have d1 : decide ((1 : Int) < 1) = false := rfl
  repeat' (first | (refine rG 0 [0, 6, 7, 8] ?_; ((try (refine wK ?_; intro _)))) | refine wC ?_ | (refine ex_split rfl ?_ ?_ <;> intro hc))
  refine ex_loop (fun m e H => ∃ g, (m = 1 ∧ e = put (put (put (put g 0 (.pointer (some ⟨b, 0, none⟩))) 6 (.slice (some ad) 1 cap)) 7 (.int .i64 1)) 8 (.int .i64 0) ∧ H = cl true b [.int .i64 c, .int .i64 k, .int .i64 x, w] t (0, 0) * R) ∨ (m = 0 ∧ e = put (put (put (put g 0 (.pointer (some ⟨b, 0, none⟩))) 6 (.slice (some ad) 1 cap)) 7 (.int .i64 1)) 8 (.int .i64 1) ∧ H = cl true b [.int .i64 (IntKind.i64.wrap (c + 1)), .int .i64 k, .int .i64 (tk c k x v 1), w] t (0, 0) * R)) (m := 1) ⟨_, .inl ⟨rfl, rfl, rfl⟩⟩ ?_
  rintro m e H ⟨g, ⟨rfl, rfl, rfl⟩ | ⟨rfl, rfl, rfl⟩⟩
  · repeat' (first | (refine rG 1 [0, 6, 7, 8, 9] ?_; ((try (refine wK ?_; intro _)))) | (refine rG 2 [0, 5, 6, 7, 8] ?_; ((try (refine wK ?_; intro _)))) | (refine rG 3 [0, 6, 7, 8] ?_; ((try refine wO ?_) <;> (try (refine o_callB (by first | exact True.intro | (show _ < _; decide)) rfl rfl (take _ _ _ _ _ _ _ _) (fun _ _ => ?_))) <;> (try (refine wK ?_; intro _)))) | (refine rG 4 [0, 6, 7, 8] ?_; ((try (refine wK ?_; intro _)))) | refine wC ?_ | (refine ex_split rfl ?_ ?_ <;> intro hc))
    exact ⟨0, by omega, _, .inr ⟨rfl, rfl, rfl⟩⟩
  · repeat' (first | (refine rG 1 [0, 6, 7, 8, 9] ?_; ((try (refine wK ?_; intro _)))) | refine wC ?_ | (refine ex_split rfl ?_ ?_ <;> intro hc))
    exact fin (.inl rfl) () (resl0 rfl) trivial (Ent.refl _)
theorem aggnew (k : Int) : Spec Tryz.prog 65 [.int .i64 k] 1 (X := Unit) (fun _ => .agg #[.int .i64 0, .int .i64 k, .int .i64 0]) (fun _ => True) (fun _ => 1) := by
  refine spec_of Tryz.func65 rfl Tryz.ntmps65 rfl ?_
  repeat' (first | (refine rG 0 [0, 2] ?_; ((try ((refine o_alloc_a (by decide) (fun _ => ?_)))) <;> (try (refine wK ?_; intro _)))) | (refine rG 1 [2] ?_; ((try (refine wK ?_; intro _)))) | refine wC ?_ | (refine ex_split rfl ?_ ?_ <;> intro hc))
  (try dsimp only [spl, andThen, Nat.zero_add, Nat.add_zero, Nat.reduceAdd])
  exact fin (.inr rfl) () (resl1 rfl (rv_cell_a rfl rfl)) trivial (Ent.toOne _)
theorem snew (s : Sk) : Spec Tryz.prog 39 [.agg (sc s).toArray] 1 (X := Unit) (fun _ => .agg (pcl s.2.2.2.1 (0, 0, 0)).toArray) (fun _ => True) (fun _ => 1) := by
  obtain ⟨f, to, le, ag, ti⟩ := s
  refine spec_of Tryz.func39 rfl Tryz.ntmps39 rfl ?_
  repeat' (first | (refine rG 0 [1, 2] ?_; ((try ((refine o_box (by decide) (v := .agg (List.toArray _)) rfl rfl (fun _ => ?_)))) <;> (try ((refine o_alloc_a (by decide) (fun _ => ?_)))) <;> (try (refine wK ?_; intro _)))) | (refine rG 1 [2] ?_; ((try refine wO ?_) <;> (try (refine o_call (aggnew _) (by first | exact True.intro | (show _ < _; decide)) rfl rfl (fun _ _ => ?_))) <;> (try (refine wK ?_; intro _)))) | refine wC ?_ | (refine ex_split rfl ?_ ?_ <;> intro hc))
  (try dsimp only [spl, andThen, Nat.zero_add, Nat.add_zero, Nat.reduceAdd])
  exact fin (.inr rfl) () (resl1 rfl (rv_cell_a rfl rfl)) trivial (Ent.toOne _)
theorem gives (r : Rw) (s : Sk) {v : Bool} (h : bl r.2.2.2.2 s.1 = v) : Spec Tryz.prog 132 [.agg (rwc r).toArray, .agg (sc s).toArray] 1 (X := Unit) (fun _ => .bool v) (fun _ => True) (fun _ => 1) := by
  obtain ⟨st, ke, va, co, la⟩ := r
  obtain ⟨f, to, le, ag, ti⟩ := s
  refine spec_of Tryz.func132 rfl Tryz.ntmps132 rfl ?_
  repeat' (first | (refine rG 0 [2, 3] ?_; ((try ((refine o_box (by decide) (v := .agg (List.toArray _)) rfl rfl (fun _ => ?_)))) <;> (try ((refine o_box (by decide) (v := .agg (List.toArray _)) rfl rfl (fun _ => ?_)))) <;> (try (refine wK ?_; intro _)))) | (refine rG 1 [4] ?_; ((try refine wO ?_) <;> (try (refine o_call (belowV h) (by first | exact True.intro | (show _ < _; decide)) rfl rfl (fun _ _ => ?_))) <;> (try (refine wK ?_; intro _)))) | refine wC ?_ | (refine ex_split rfl ?_ ?_ <;> intro hc))
  exact fin (.inr rfl) () (resl1 rfl (rv_tmp rfl)) trivial (Ent.toOne _)
theorem epoch (s : Sk) (tick : Int) : Spec Tryz.prog 96 [.agg (sc s).toArray, .int .i64 tick] 1 (X := Unit) (fun _ => .tuple #[.int .i64 (ep s tick).1, .bool (ep s tick).2]) (fun _ => True) (fun _ => 1) := by
  obtain ⟨f, to, le, ag, ti⟩ := s
  by_cases h1 : tick < 1
  · have d1 : decide (tick < 1) = true := decide_eq_true h1
    have e : ep (f, to, le, ag, ti) tick = (-1, false) := by unfold ep; rw [d1]; rfl
    rw [e]
    refine spec_of Tryz.func96 rfl Tryz.ntmps96 rfl ?_
    repeat' (first | (refine rG 0 [1, 2] ?_; ((try ((refine o_box (by decide) (v := .agg (List.toArray _)) rfl rfl (fun _ => ?_)))) <;> (try (refine wK ?_; intro _)))) | (refine rG 1 [1, 2, 19] ?_; ((try refine wO ?_) <;> (repeat' (refine g_split rfl (by decide) rfl (by decide) ?_ ?_ <;> intro hc <;> (try refine wO ?_))) <;> (try (refine wK ?_; intro _)))) | (refine rG 2 [4, 5] ?_; ((try (refine wK ?_; intro _)))) | refine wC ?_ | (refine ex_split rfl ?_ ?_ <;> intro hc))
    exact fin (.inr rfl) () (resl2 rfl (rv_tmp rfl) (rv_tmp rfl)) trivial (Ent.toOne _)
  · have d1 : decide (tick < 1) = false := decide_eq_false h1
    by_cases h2 : ti < 1
    · have d2 : decide (ti < 1) = true := decide_eq_true h2
      have e : ep (f, to, le, ag, ti) tick = (-1, false) := by unfold ep; simp only [d1, d2]; rfl
      rw [e]
      refine spec_of Tryz.func96 rfl Tryz.ntmps96 rfl ?_
      repeat' (first | (refine rG 0 [1, 2] ?_; ((try ((refine o_box (by decide) (v := .agg (List.toArray _)) rfl rfl (fun _ => ?_)))) <;> (try (refine wK ?_; intro _)))) | (refine rG 1 [1, 2, 19] ?_; ((try refine wO ?_) <;> (repeat' (refine g_split rfl (by decide) rfl (by decide) ?_ ?_ <;> intro hc <;> (try refine wO ?_))) <;> (try (refine wK ?_; intro _)))) | (refine rG 2 [4, 5] ?_; ((try (refine wK ?_; intro _)))) | refine wC ?_ | (refine ex_split rfl ?_ ?_ <;> intro hc))
      exact fin (.inr rfl) () (resl2 rfl (rv_tmp rfl) (rv_tmp rfl)) trivial (Ent.toOne _)
    · have d2 : decide (ti < 1) = false := decide_eq_false h2
      have hne : ti ≠ 0 := by omega
      cases h3 : (tick.tmod ti != 0) with
      | true =>
        have e : ep (f, to, le, ag, ti) tick = (-1, false) := by unfold ep; simp only [d1, d2, h3]; rfl
        rw [e]
        refine spec_of Tryz.func96 rfl Tryz.ntmps96 rfl ?_
        repeat' (first | (refine rG 0 [1, 2] ?_; ((try ((refine o_box (by decide) (v := .agg (List.toArray _)) rfl rfl (fun _ => ?_)))) <;> (try (refine wK ?_; intro _)))) | (refine rG 1 [1, 2, 19] ?_; ((try refine wO ?_) <;> (repeat' (refine g_split rfl (by decide) rfl (by decide) ?_ ?_ <;> intro hc <;> (try refine wO ?_))) <;> (try (refine wK ?_; intro _)))) | (refine rG 2 [4, 5] ?_; ((try (refine wK ?_; intro _)))) | refine wC ?_ | (refine ex_split rfl ?_ ?_ <;> intro hc))
        exact fin (.inr rfl) () (resl2 rfl (rv_tmp rfl) (rv_tmp rfl)) trivial (Ent.toOne _)
      | false =>
        have e : ep (f, to, le, ag, ti) tick = (IntKind.i64.wrap (IntKind.i64.wrap (tick.tdiv ti) - 1), true) := by unfold ep; simp only [d1, d2, h3]; rfl
        rw [e]
        refine spec_of Tryz.func96 rfl Tryz.ntmps96 rfl ?_
        repeat' (first | (refine rG 0 [1, 2] ?_; ((try ((refine o_box (by decide) (v := .agg (List.toArray _)) rfl rfl (fun _ => ?_)))) <;> (try (refine wK ?_; intro _)))) | (refine rG 1 [1, 2, 19] ?_; ((try refine wO ?_) <;> (repeat' (refine g_split rfl (by decide) rfl (by decide) ?_ ?_ <;> intro hc <;> (try refine wO ?_))) <;> (try (refine wK ?_; intro _)))) | (refine rG 3 [4, 5] ?_; ((try (refine wK ?_; intro _)))) | refine wC ?_ | (refine ex_split rfl ?_ ?_ <;> intro hc))
        exact fin (.inr rfl) () (resl2 rfl (rv_tmp rfl) (rv_tmp rfl)) trivial (Ent.toOne _)
set_option maxHeartbeats 4000000 in
theorem tell (k : Int) (p : Pt) (s : Sk) (id e_ : Int) : Spec Tryz.prog 97 [.agg (pcl k p).toArray, .agg (sc s).toArray, .int .i64 id, .int .i64 e_] 1 (X := Unit) (fun _ => .agg #[.int .i64 id, .int .i64 e_, .int .i64 (if few p s then 0 else p.2.1), .bool (few p s)]) (fun _ => True) (fun _ => 1) := by
  obtain ⟨f, to, le, ag, ti⟩ := s
  obtain ⟨c, x, w⟩ := p
  cases hf : few (c, x, w) (f, to, le, ag, ti)
  all_goals
    have hd : decide (((ids w).length : Int) < le) = _ := hf
    refine spec_of Tryz.func97 rfl Tryz.ntmps97 rfl ?_
    repeat' (first | (refine rG 0 [2, 3, 4, 5, 8] ?_; ((try ((refine o_box (by decide) (v := .agg (List.toArray _)) rfl rfl (fun _ => ?_)))) <;> (try ((refine o_box (by decide) (v := .agg (List.toArray _)) rfl rfl (fun _ => ?_)))) <;> (try ((refine o_alloc_a (by decide) (fun _ => ?_)))) <;> (try (refine wK ?_; intro _)))) | (refine rG 1 [4, 5, 8, 9] ?_; ((try refine wO ?_) <;> (try ((refine o_alloc_a (by decide) (fun _ => ?_)))) <;> (try (refine wK ?_; intro _)))) | (refine rA 2 [8, 9, 21] 6 ?_; ((refine aF 0 ?_) <;> ((refine aF 3 ?_) <;> (refine oa_two 1 4 (by kernel_rfl) rfl rfl rfl rfl ?_ ?_ <;> first | (((first | refine o_load_s (v := .int _ _) (by decide) rfl rfl ?_ | refine o_load_s (by decide) rfl rfl ?_ | refine o_load_r (by decide) rfl (by assumption) ?_ | refine o_load_r (v := .int _ _) (by decide) rfl rfl ?_) <;> (refine oa_nil ?_) <;> (refine oa_two 2 4 (by kernel_rfl) rfl rfl rfl rfl ?_ ?_ <;> first | (((refine o_call (count w) (by first | exact True.intro | (show _ < _; decide)) rfl rfl (fun _ _ => ?_)) <;> (refine oa_nil ?_) <;> ((refine aO 4 ?_ <;> (refine wO ?_) <;> refine oa_nil ?_) <;> ((refine aI 5 ?_) <;> ((refine dK ?_; intro _)))))) | (((first | refine o_load_s (v := .int _ _) (by decide) rfl rfl ?_ | refine o_load_s (by decide) rfl rfl ?_ | refine o_load_r (by decide) rfl (by assumption) ?_ | refine o_load_r (v := .int _ _) (by decide) rfl rfl ?_) <;> (refine oa_nil ?_) <;> ((refine aO 2 ?_ <;> (refine o_call (count w) (by first | exact True.intro | (show _ < _; decide)) rfl rfl (fun _ _ => ?_)) <;> refine oa_nil ?_) <;> ((refine aI 5 ?_) <;> ((refine dK ?_; intro _))))))))) | (((first | refine o_load_s (v := .int _ _) (by decide) rfl rfl ?_ | refine o_load_s (by decide) rfl rfl ?_ | refine o_load_r (by decide) rfl (by assumption) ?_ | refine o_load_r (v := .int _ _) (by decide) rfl rfl ?_) <;> (refine oa_nil ?_) <;> ((refine aO 1 ?_ <;> (refine wO ?_) <;> refine oa_nil ?_) <;> ((refine aO 2 ?_ <;> (refine o_call (count w) (by first | exact True.intro | (show _ < _; decide)) rfl rfl (fun _ _ => ?_)) <;> refine oa_nil ?_) <;> ((refine aI 5 ?_) <;> ((refine dK ?_; intro _))))))))))) | (refine rG 3 [8, 9] ?_; ((try (refine wK ?_; intro _)))) | (refine rG 4 [8] ?_; ((try (refine wK ?_; intro _)))) | refine wC ?_ | (refine ex_split rfl ?_ ?_ <;> intro hc))
    all_goals (try dsimp only [spl, andThen, Nat.zero_add, Nat.add_zero, Nat.reduceAdd])
    all_goals exact fin (.inr rfl) () (resl1 rfl (rv_cell_a rfl rfl)) trivial (Ent.toOne _)
end Go.Proofs.YtcelailgedndnaaGreatS
namespace Go.Proofs.YtcelailgedndnaaGreatS
open Go.RowKit
set_option linter.unusedVariables false
set_option linter.unusedSimpArgs false
abbrev Pm : Type := List (Pl × Pt)
def TM (k : Int) (P : Pm) : Mm := P.map fun x => (x.1, .agg (pcl k x.2).toArray)
def pget : Pm → Pl → Option Pt
  | [], _ => none
  | x :: M, p => if p = x.1 then some x.2 else pget M p
def pset : Pm → Pl → Pt → Pm
  | [], p, v => [(p, v)]
  | x :: M, p, v => if p = x.1 then (p, v) :: M else x :: pset M p v
def pdel : Pm → Pl → Pm
  | [], _ => []
  | x :: M, p => if p = x.1 then M else x :: pdel M p
theorem tm_get (k : Int) : ∀ (P : Pm) (p : Pl), mget (TM k P) p = (pget P p).map fun v => .agg (pcl k v).toArray
  | [], _ => rfl
  | x :: P, p => by
    simp only [TM, List.map_cons, mget, pget]
    by_cases h : p = x.1
    · simp [h]
    · simp only [if_neg h]; exact tm_get k P p
theorem tm_set (k : Int) : ∀ (P : Pm) (p : Pl) (v : Pt), mset (TM k P) p (.agg (pcl k v).toArray) = TM k (pset P p v)
  | [], _, _ => rfl
  | x :: P, p, v => by
    simp only [TM, List.map_cons, mset, pset]
    by_cases h : p = x.1
    · simp [h]
    · simp only [if_neg h, List.map_cons]; exact congrArg _ (tm_set k P p v)
theorem tm_del (k : Int) : ∀ (P : Pm) (p : Pl), mdel (TM k P) p = TM k (pdel P p)
  | [], _ => rfl
  | x :: P, p => by
    simp only [TM, List.map_cons, mdel, pdel]
    by_cases h : p = x.1
    · simp [h]
    · simp only [if_neg h, List.map_cons]; exact congrArg _ (tm_del k P p)
theorem tm_len (k : Int) (P : Pm) : (TM k P).length = P.length := by simp [TM]
theorem tm_keys (k : Int) (P : Pm) : keysOf (TM k P) = psort (P.map (·.1)) := by unfold keysOf TM; rw [List.map_map]; rfl
def pkeys (P : Pm) : List Pl := psort (P.map (·.1))
def rowP (P : Pm) (p : Pl) : Rw := match pget P p with
  | some v => (p.1, p.2, v.2.1, v.1, v.2.2)
  | none => (p.1, p.2, 0, 0, 0)
theorem pget_mem : ∀ (P : Pm) (p : Pl), p ∈ P.map (·.1) → ∃ v, pget P p = some v
  | [], _, h => by simp at h
  | x :: P, p, h => by
    unfold pget
    by_cases h1 : p = x.1
    · exact ⟨x.2, by rw [if_pos h1]⟩
    · rw [if_neg h1]
      rcases List.mem_cons.1 (by simpa using h : p ∈ x.1 :: P.map (·.1)) with h2 | h2
      · exact absurd h2 h1
      · exact pget_mem P p h2
end Go.Proofs.YtcelailgedndnaaGreatS
namespace Go.Proofs.YtcelailgedndnaaGreatS
open Go.RowKit
set_option linter.unusedVariables false
set_option linter.unusedSimpArgs false
attribute [local irreducible] Ops Ex Spec T V QO OA Rn OS
abbrev PT (b mb : Nat) (s d k : Int) (P : Pm) : HP := PN b mb s d k (TM k P)
theorem pnRowT {X H : HP} (b mb : Nat) (s d k : Int) (P : Pm) (p : Pl) [t : Take (PT b mb s d k P) X H] (hm : p ∈ P.map (·.1)) :
    Spec Tryz.prog 55 [.pointer (some ⟨b, 0, none⟩), .agg (plc p).toArray] X (X := Unit) (fun _ => .agg (rwc (rowP P p)).toArray) (fun _ => True) (fun _ => X) := by
  obtain ⟨v, hv⟩ := pget_mem P p hm
  have hg : mget (TM k P) p = some (.agg (List.toArray [.int .i64 v.1, .int .i64 k, .int .i64 v.2.1, .int .u64 (U v.2.2)])) := by rw [tm_get, hv]; rfl
  have h := pnRow b mb s d k (TM k P) p v.1 k v.2.1 (U v.2.2) (X := X) (H := H) hg
  have e : rowP P p = (p.1, p.2, v.2.1, v.1, v.2.2) := by unfold rowP; rw [hv]
  rw [e]
  exact h
theorem placesT {X H : HP} (b mb : Nat) (s d k : Int) (P : Pm) [t : Take (PT b mb s d k P) X H] (hM : P.length ≤ 1000000) :
    Spec Tryz.prog 54 [.pointer (some ⟨b, 0, none⟩)] X (X := Option Addr × Nat) (fun y => .slice y.1 P.length y.2) (fun y => True)
      (fun y => ow 135 2 y.1 P.length y.2 ((pkeys P).flatMap plc) * X) := by
  have h := placesS b mb (TM k P) (.int .i64 s) (.int .i64 d) (.int .i64 k) H (by rw [tm_len]; exact hM)
  rw [tm_len, tm_keys] at h
  have e : X = cl true b [.int .i64 s, .int .i64 d, .int .i64 k, .map (some mb)] 114 (0, 0) * (pm mb (TM k P) * H) := by rw [t.eq]; unfold PT PN; rw [sep_assoc]
  rw [e]
  refine h.mono fun y _ => ⟨y, rfl, trivial, Ent.ofEq ?_⟩
  rw [sep_left_comm (pm mb (TM k P))]; rfl
end Go.Proofs.YtcelailgedndnaaGreatS
namespace Go.Proofs.YtcelailgedndnaaGreatS
open Go.RowKit
theorem ent_clL {H : HP} {b : Nat} {p : Bool} {l l' : List Value} {t : TypeId} {fr : Nat × Nat} {R : HP} [h : HasL H b p l t fr R] (hl : l = l') : Ent H (cl p b l' t fr * R) := by rw [h.eq, hl]; exact Ent.refl _
set_option linter.unusedVariables false
set_option linter.unusedSimpArgs false
attribute [local irreducible] Ops Ex Spec T V QO OA Rn OS
theorem pkeys_len (P : Pm) : (pkeys P).length = P.length := by unfold pkeys; rw [(psort_perm _).length_eq, List.length_map]
theorem pkeys_mem (P : Pm) (i : Nat) (h : i < (pkeys P).length) : (pkeys P)[i] ∈ P.map (·.1) := (psort_perm _).mem_iff.1 (List.getElem_mem h)
theorem plc_len (x : Pl) : (plc x).length = 2 := rfl
set_option maxRecDepth 100000 in
set_option maxHeartbeats 4000000 in
theorem pnOpen {X H : HP} (b mb : Nat) (s d k : Int) (P : Pm) [t : Take (PT b mb s d k P) X H] (hM : P.length ≤ 100000) :
    Spec Tryz.prog 29 [.pointer (some ⟨b, 0, none⟩)] X (X := Option Addr × Nat) (fun y => .slice y.1 ((pkeys P).map (rowP P)).length y.2) (fun y => ((pkeys P).map (rowP P)).length ≤ y.2)
      (fun y => ow 67 5 y.1 ((pkeys P).map (rowP P)).length y.2 (((pkeys P).map (rowP P)).flatMap rwc) * X) := by
  have hK := pkeys_len P
  refine spec_of Tryz.func29 rfl Tryz.ntmps29 rfl ?_
  repeat' (first | (refine rG 0 [0] ?_; ((try (refine wK ?_; intro _)))) | (refine rG 1 [0, 3] ?_; ((try (refine wK ?_; intro _)))) | (refine rG 2 [0, 3, 7, 8, 9] ?_; ((try refine wO ?_) <;> (try ((refine o_callH (placesT b mb s d k P (by omega)) (by first | exact True.intro | (show _ < _; decide)) rfl rfl (fun y _ => ?_); obtain ⟨pa, pc0⟩ := y))) <;> (try (refine wK ?_; intro _)))) | refine wC ?_ | (refine ex_split rfl ?_ ?_ <;> intro hc))
  refine Ex.ent ?_ (Ent.ow_none 67 5 _)
  refine ex_loopE (fun mm e H' => ∃ g, ∃ i : Nat, ∃ L : List Rw, ∃ ra, ∃ rc : Nat, e = put (put (put (put (put g 0 (.pointer (some ⟨b, 0, none⟩))) 3 (.slice ra L.length rc)) 7 (.slice pa P.length pc0)) 8 (.int .i64 (P.length : Int))) 9 (.int .i64 (i : Int)) ∧
    H' = ow 67 5 ra L.length rc (L.flatMap rwc) * (ow 135 2 pa P.length pc0 ((pkeys P).flatMap plc) * X) ∧ L = ((pkeys P).take i).map (rowP P) ∧ i ≤ P.length ∧ L.length ≤ rc ∧ mm = P.length - i) (m := P.length) ⟨_, 0, [], none, 0, rfl, rfl, by simp, by omega, by simp, by omega⟩ ?_ ?_
  · exact Ent.refl _
  · rintro mm e H' ⟨g, i, L, ra, rc, rfl, rfl, hL, hi, hrc, rfl⟩
    by_cases hlt : i < P.length
    · have hd : decide ((i : Int) < (P.length : Int)) = true := by simp; omega
      have h0 : 0 ≤ (i : Int) := by omega
      have h1 : (i : Int) < (P.length : Int) := by omega
      have hik : i < (pkeys P).length := by omega
      have hLl : L.length ≤ 100000 := by rw [hL]; simp; omega
      refine Ex.rd_some (a := pa) (l := (pkeys P).flatMap plc) (by rw [flat_len plc_len]; omega) (fun ad ha => ?_)
      subst ha
      have hv : sub ((pkeys P).flatMap plc) ((i : Int).toNat * 2) 2 = some (plc (pkeys P)[i]) := by rw [Int.toNat_natCast]; exact sub_flat plc_len (pkeys P) i hik
      have hm := pkeys_mem P i hik
      have ei : IntKind.i64.wrap ((i : Int) + 1) = ((i + 1 : Nat) : Int) := by rw [IntKind.wrap_i64]; omega
      have hL1 : L ++ [rowP P (pkeys P)[i]] = ((pkeys P).take (i + 1)).map (rowP P) := by rw [List.take_succ_eq_append_getElem hik, List.map_append, hL]; rfl
      generalize (pkeys P)[i] = q at *
      obtain ⟨q1, q2⟩ := q
      repeat' (first | (refine rG 3 [0, 3, 7, 8, 9, 10] ?_; ((try (refine wK ?_; intro _)))) | (refine ex_regk (id := 4) (ts := [0, 3, 5, 7, 8, 9]) ?_; ((try (refine o_index (by decide) rfl rfl (by first | decide | assumption | omega) (by first | decide | assumption | omega) ?_)) <;> (try (refine o_load_ra (vs := plc (q1, q2)) (by decide) rfl hv ?_)) <;> (try ((refine o_alloc_a (by decide) (fun b5 => ?_)))) <;> (try (first | refine o_store_a rfl rfl rfl rfl rfl ?_ | refine o_store_oa rfl rfl rfl (Nat.succ_pos _) rfl (by assumption) ?_)) <;> (try (refine ops_nilk ?_; intro _)) <;> (try ((first | refine keep_cons (v := .pointer _) rfl ?_ | refine keep_cons (v := _) rfl ?_) <;> (first | refine keep_cons (v := .slice _ _ _) rfl ?_ | refine keep_cons (v := _) rfl ?_) <;> (first | refine keep_cons (v := .pointer _) rfl ?_ | refine keep_cons (v := _) rfl ?_) <;> (first | refine keep_cons (v := .slice _ _ _) rfl ?_ | refine keep_cons (v := _) rfl ?_) <;> (first | refine keep_cons (v := .int _ _) rfl ?_ | refine keep_cons (v := _) rfl ?_) <;> (first | refine keep_cons (v := .int _ _) rfl ?_ | refine keep_cons (v := _) rfl ?_))) <;> (try refine keep_nil ?_))) | refine wC ?_ | (refine ex_split rfl ?_ ?_ <;> intro hc))
      refine Ex.ent ?_ (ent_clL (b := b5) (l' := plc (q1, q2)) rfl)
      repeat' (first | (refine ex_regk (id := 5) (ts := [0, 3, 7, 8, 9]) ?_; ((try (first | refine o_mv (v := .slice _ _ _) (by decide) rfl ?_ | refine o_mv (by decide) rfl ?_)) <;> (try (first | refine o_mv (v := .pointer _) (by decide) rfl ?_ | refine o_mv (by decide) rfl ?_)) <;> (try (refine o_load_a (vs := plc (q1, q2)) (by decide) rfl rfl ?_)) <;> (try (refine o_callH (pnRowT b mb s d k P (q1, q2) hm) (by first | exact True.intro | (show _ < _; decide)) rfl rfl (fun _ _ => ?_))) <;> (try ((refine o_buildSlice (by decide) rfl rfl rfl (fun _ => ?_)))) <;> (try (refine o_appendT (cells := rwc) (xs := L) (ys := [rowP P (q1, q2)]) rwc_len rwc_one (by decide) rfl rfl rfl rfl rfl (by simp only [List.length_cons, List.length_nil]; omega) (by simp only [maxLen, List.length_cons, List.length_nil]; omega) (fun a' cap' hc' => ?_))) <;> (try (first | refine o_as (v := .slice _ _ _) (by decide) rfl ?_ | refine o_as (by decide) rfl ?_)) <;> (try (refine ops_nilk ?_; intro _)) <;> (try ((first | refine keep_cons (v := .pointer _) rfl ?_ | refine keep_cons (v := _) rfl ?_) <;> (first | refine keep_cons (v := .slice _ _ _) rfl ?_ | refine keep_cons (v := _) rfl ?_) <;> (first | refine keep_cons (v := .slice _ _ _) rfl ?_ | refine keep_cons (v := _) rfl ?_) <;> (first | refine keep_cons (v := .int _ _) rfl ?_ | refine keep_cons (v := _) rfl ?_) <;> (first | refine keep_cons (v := .int _ _) rfl ?_ | refine keep_cons (v := _) rfl ?_))) <;> (try refine keep_nil ?_))) | refine wC ?_ | (refine ex_split rfl ?_ ?_ <;> intro hc))
      repeat' (first | (refine rG 6 [0, 3, 7, 8, 9] ?_; ((try (refine wK ?_; intro _)))) | refine wC ?_ | (refine ex_split rfl ?_ ?_ <;> intro hc))
      rw [ei]
      refine ⟨P.length - (i + 1), by omega, _, ?_, _, i + 1, L ++ [rowP P (q1, q2)], a', cap', rfl, rfl, hL1, by omega, hc', rfl⟩
      exact ent_take
    · have hil : i = P.length := by omega
      subst hil
      have hd : decide ((P.length : Int) < (P.length : Int)) = false := by simp
      have hLe : L = (pkeys P).map (rowP P) := by rw [hL, List.take_of_length_le (by omega)]
      repeat' (first | (refine rG 3 [0, 3, 7, 8, 9, 10] ?_; ((try (refine wK ?_; intro _)))) | (refine rG 7 [2] ?_; ((try (refine wK ?_; intro _)))) | refine wC ?_ | (refine ex_split rfl ?_ ?_ <;> intro hc))
      rw [← hLe]
      exact fin (.inr rfl) (ra, rc) (resl1 rfl (rv_tmp rfl)) hrc ent_take
end Go.Proofs.YtcelailgedndnaaGreatS
namespace Go.Proofs.YtcelailgedndnaaGreatS
open Go.RowKit
instance (priority := 600) take_assoc (A B C D R : HP) [h : Take A (B * (C * D)) R] : Take A (B * C * D) R := ⟨by rw [sep_assoc]; exact h.eq⟩
instance (priority := 600) hasL_assoc (B C D : HP) (b : Nat) (p l t fr R) [h : HasL (B * (C * D)) b p l t fr R] : HasL (B * C * D) b p l t fr R := ⟨by rw [sep_assoc]; exact h.eq⟩
set_option linter.unusedVariables false
set_option linter.unusedSimpArgs false
attribute [local irreducible] Ops Ex Spec T V QO OA Rn OS
/-- All but A, named, stays. -/
theorem os_butP {P : Program} {n : Nat} {ops : Array Oper} {e : Env} {H : HP} {listed : Array Bool} {K : Env → HP → Prop} (A : HP) {R : HP} {k : Nat} [t : Take A H R] (h : OS P n ops R k listed e (A * R) K) : OA P n ops k listed e H K := by
  rw [t.eq]; exact oa_os R h
def due (sz mark : Int) (p : Pl) : Bool := decide (IntKind.i64.wrap (p.1 + sz) ≤ mark)
def clR (sz mark : Int) (P : Pm) : List Rw := ((pkeys P).filter (due sz mark)).map (rowP P)
def clP (sz mark : Int) (P : Pm) : Pm := ((pkeys P).filter (due sz mark)).foldl pdel P
theorem pget_pdel (P : Pm) (p q : Pl) (h : p ≠ q) : pget (pdel P q) p = pget P p := by
  induction P with
  | nil => rfl
  | cons x P ih =>
    have e : pdel (x :: P) q = if q = x.1 then P else x :: pdel P q := rfl
    have f : ∀ M, pget (x :: M) p = if p = x.1 then some x.2 else pget M p := fun _ => rfl
    rw [e, f]
    by_cases h1 : q = x.1
    · rw [if_pos h1, if_neg (fun e => h (e.trans h1.symm))]
    · rw [if_neg h1, f, ih]
theorem pget_fold (p : Pl) : ∀ (l : List Pl) (P : Pm), (∀ q ∈ l, p ≠ q) → pget (l.foldl pdel P) p = pget P p
  | [], _, _ => rfl
  | q :: l, P, h => by
    rw [List.foldl_cons, pget_fold p l _ (fun r hr => h r (List.mem_cons_of_mem _ hr)), pget_pdel P p q (h q (List.mem_cons_self ..))]
theorem pdel_len (P : Pm) (q : Pl) : (pdel P q).length ≤ P.length := by
  induction P with
  | nil => exact Nat.le_refl _
  | cons x P ih =>
    unfold pdel
    split
    · simp
    · simp; exact ih
theorem fold_len : ∀ (l : List Pl) (P : Pm), (l.foldl pdel P).length ≤ P.length
  | [], _ => Nat.le_refl _
  | q :: l, P => by rw [List.foldl_cons]; exact Nat.le_trans (fold_len l _) (pdel_len P q)
theorem pkeys_nodup {P : Pm} (h : (P.map (·.1)).Nodup) : (pkeys P).Nodup := (psort_perm _).nodup_iff.2 h
theorem rowP_get {P Q : Pm} {p : Pl} (h : pget P p = pget Q p) : rowP P p = rowP Q p := by unfold rowP; rw [h]
theorem pnRowV {X H : HP} (b mb : Nat) (s d k : Int) (P : Pm) (p : Pl) {v : Pt} [t : Take (PT b mb s d k P) X H] (hv : pget P p = some v) {r : Rw} (hr : rowP P p = r) :
    Spec Tryz.prog 55 [.pointer (some ⟨b, 0, none⟩), .agg (plc p).toArray] X (X := Unit) (fun _ => .agg (rwc r).toArray) (fun _ => True) (fun _ => X) := by
  subst hr
  have hg : mget (TM k P) p = some (.agg (List.toArray [.int .i64 v.1, .int .i64 k, .int .i64 v.2.1, .int .u64 (U v.2.2)])) := by rw [tm_get, hv]; rfl
  have h := pnRow b mb s d k (TM k P) p v.1 k v.2.1 (U v.2.2) (X := X) (H := H) hg
  have e : rowP P p = (p.1, p.2, v.2.1, v.1, v.2.2) := by unfold rowP; rw [hv]
  rw [e]
  exact h
set_option maxRecDepth 100000 in
set_option maxHeartbeats 4000000 in
theorem pnClose {X H : HP} (b mb : Nat) (s d k mark : Int) (P : Pm) [t : Take (PT b mb s d k P) X H] (hM : P.length ≤ 100000) (hN : (P.map (·.1)).Nodup) :
    Spec Tryz.prog 79 [.pointer (some ⟨b, 0, none⟩), .int .i64 mark] X (X := Option Addr × Nat) (fun y => .slice y.1 (clR s mark P).length y.2) (fun y => (clR s mark P).length ≤ y.2)
      (fun y => ow 67 5 y.1 (clR s mark P).length y.2 ((clR s mark P).flatMap rwc) * (PT b mb s d k (clP s mark P) * H)) := by
  have hK := pkeys_len P
  have hKN := pkeys_nodup hN
  refine spec_of Tryz.func79 rfl Tryz.ntmps79 rfl ?_
  repeat' (first | (refine rG 0 [0, 1] ?_; ((try (refine wK ?_; intro _)))) | (refine rG 1 [0, 1, 5] ?_; ((try (refine wK ?_; intro _)))) | (refine rG 2 [0, 1, 5, 9, 10, 11] ?_; ((try refine wO ?_) <;> (try ((refine o_callH (placesT b mb s d k P (by omega)) (by first | exact True.intro | (show _ < _; decide)) rfl rfl (fun y _ => ?_); obtain ⟨pa, pc0⟩ := y))) <;> (try (refine wK ?_; intro _)))) | refine wC ?_ | (refine ex_split rfl ?_ ?_ <;> intro hc))
  refine Ex.ent ?_ (Ent.ow_none 67 5 _)
  refine ex_loopE (fun mm e H' => ∃ g, ∃ i : Nat, ∃ L : List Rw, ∃ Q : Pm, ∃ ra, ∃ rc : Nat, e = put (put (put (put (put (put g 0 (.pointer (some ⟨b, 0, none⟩))) 1 (.int .i64 mark)) 5 (.slice ra L.length rc)) 9 (.slice pa P.length pc0)) 10 (.int .i64 (P.length : Int))) 11 (.int .i64 (i : Int)) ∧
    H' = cl true b [.int .i64 s, .int .i64 d, .int .i64 k, .map (some mb)] 114 (0, 0) * (pm mb (TM k Q) * (ow 67 5 ra L.length rc (L.flatMap rwc) * (ow 135 2 pa P.length pc0 ((pkeys P).flatMap plc) * H))) ∧ L = (((pkeys P).take i).filter (due s mark)).map (rowP P) ∧ Q = (((pkeys P).take i).filter (due s mark)).foldl pdel P ∧ i ≤ P.length ∧ L.length ≤ rc ∧ mm = P.length - i) (m := P.length) ⟨_, 0, [], P, none, 0, rfl, rfl, by simp, by simp, by omega, by simp, by omega⟩ ?_ ?_
  · rw [t.eq]; unfold PT PN
    show Ent _ (cl true b [.int .i64 s, .int .i64 d, .int .i64 k, .map (some mb)] 114 (0, 0) * (pm mb (TM k P) * (ow 67 5 none 0 0 [] * (ow 135 2 pa P.length pc0 ((pkeys P).flatMap plc) * H))))
    exact ent_take
  · rintro mm e H' ⟨g, i, L, Q, ra, rc, rfl, rfl, hL, hQ, hi, hrc, rfl⟩
    by_cases hlt : i < P.length
    · have hd : decide ((i : Int) < (P.length : Int)) = true := by simp; omega
      have h0 : 0 ≤ (i : Int) := by omega
      have h1 : (i : Int) < (P.length : Int) := by omega
      have hik : i < (pkeys P).length := by omega
      have hLl : L.length ≤ 100000 := by
        rw [hL, List.length_map]; exact Nat.le_trans (List.length_filter_le _ _) (by rw [List.length_take]; omega)
      have ei : IntKind.i64.wrap ((i : Int) + 1) = ((i + 1 : Nat) : Int) := by rw [IntKind.wrap_i64]; omega
      refine Ex.rd_some (a := pa) (l := (pkeys P).flatMap plc) (by rw [flat_len plc_len]; omega) (fun ad ha => ?_)
      subst ha
      have hv : sub ((pkeys P).flatMap plc) ((i : Int).toNat * 2) 2 = some (plc (pkeys P)[i]) := by rw [Int.toNat_natCast]; exact sub_flat plc_len (pkeys P) i hik
      obtain ⟨v, hv1⟩ := pget_mem P _ (pkeys_mem P i hik)
      have hget : pget Q (pkeys P)[i] = pget P (pkeys P)[i] := by
        rw [hQ]
        refine pget_fold _ _ _ fun q hq e => ?_
        obtain ⟨j, hj, hje⟩ := List.getElem_of_mem (List.mem_filter.1 hq).1
        rw [List.length_take] at hj
        rw [List.getElem_take] at hje
        exact List.pairwise_iff_getElem.1 hKN j i (by omega) hik (by omega) (hje.trans e.symm)
      have hgv : pget Q (pkeys P)[i] = some v := hget.trans hv1
      have hrw : rowP Q (pkeys P)[i] = rowP P (pkeys P)[i] := rowP_get hget
      have hT := List.take_succ_eq_append_getElem hik
      cases hdue : due s mark (pkeys P)[i] with
      | true =>
        have hL1 : L ++ [rowP P (pkeys P)[i]] = (((pkeys P).take (i + 1)).filter (due s mark)).map (rowP P) := by
          rw [hT, List.filter_append, List.map_append, hL]; simp [hdue]
        have hQ1 : pdel Q (pkeys P)[i] = (((pkeys P).take (i + 1)).filter (due s mark)).foldl pdel P := by
          rw [hT, List.filter_append, List.foldl_append, hQ]; simp [hdue]
        have hdd : decide (IntKind.i64.wrap ((pkeys P)[i].1 + s) > mark) = false := by
          have := of_decide_eq_true hdue; exact decide_eq_false (by omega)
        generalize (pkeys P)[i] = q at *
        obtain ⟨q1, q2⟩ := q
        repeat' (first | (refine rG 3 [0, 1, 5, 9, 10, 11, 12] ?_; ((try (refine wK ?_; intro _)))) | (refine ex_regk (id := 4) (ts := [0, 1, 5, 7, 9, 10, 11]) ?_; ((try (refine o_index (by decide) rfl rfl (by first | decide | assumption | omega) (by first | decide | assumption | omega) ?_)) <;> (try (refine o_load_ra (vs := plc (q1, q2)) (by decide) rfl hv ?_)) <;> (try ((refine o_alloc_a (by decide) (fun b7 => ?_)))) <;> (try (first | refine o_store_a rfl rfl rfl rfl rfl ?_ | refine o_store_oa rfl rfl rfl (Nat.succ_pos _) rfl (by assumption) ?_)) <;> (try (refine ops_nilk ?_; intro _)) <;> (try ((first | refine keep_cons (v := .pointer _) rfl ?_ | refine keep_cons (v := _) rfl ?_) <;> (first | refine keep_cons (v := .int _ _) rfl ?_ | refine keep_cons (v := _) rfl ?_) <;> (first | refine keep_cons (v := .slice _ _ _) rfl ?_ | refine keep_cons (v := _) rfl ?_) <;> (first | refine keep_cons (v := .pointer _) rfl ?_ | refine keep_cons (v := _) rfl ?_) <;> (first | refine keep_cons (v := .slice _ _ _) rfl ?_ | refine keep_cons (v := _) rfl ?_) <;> (first | refine keep_cons (v := .int _ _) rfl ?_ | refine keep_cons (v := _) rfl ?_) <;> (first | refine keep_cons (v := .int _ _) rfl ?_ | refine keep_cons (v := _) rfl ?_))) <;> (try refine keep_nil ?_))) | refine wC ?_ | (refine ex_split rfl ?_ ?_ <;> intro hc))
        refine Ex.ent ?_ (ent_clL (b := b7) (l' := plc (q1, q2)) rfl)
        repeat' (first | (refine rA 5 [0, 1, 5, 7, 9, 10, 11, 23] 9 ?_; (refine os_all ?_); ((refine lQ 0 ?_; ((refine lQ 1 ?_; ((refine lQ 2 ?_; ((refine lQ 3 ?_; ((refine lQ 4 ?_; ((refine lQ 5 ?_; ((refine lQ 6 ?_; ((refine lQ 7 ?_; ((refine lQ 8 ?_; ((refine dK ?_; intro _))))))))))))))))))))) | refine wC ?_ | (refine ex_split rfl ?_ ?_ <;> intro hc))
        refine Ex.ent (H' := PT b mb s d k Q * (cl true b7 (plc (q1, q2)) 135 (0, 0) * (ow 67 5 ra L.length rc (L.flatMap rwc) * (ow 135 2 (some ad) P.length pc0 ((pkeys P).flatMap plc) * H)))) ?_ (by unfold PT PN; exact ent_take)
        repeat' (first | (refine ex_regk (id := 6) (ts := [0, 1, 5, 7, 9, 10, 11]) ?_; ((try (first | refine o_mv (v := .slice _ _ _) (by decide) rfl ?_ | refine o_mv (by decide) rfl ?_)) <;> (try (first | refine o_mv (v := .pointer _) (by decide) rfl ?_ | refine o_mv (by decide) rfl ?_)) <;> (try (refine o_load_a (vs := plc (q1, q2)) (by decide) rfl rfl ?_)) <;> (try (refine o_callH (pnRowV b mb s d k Q (q1, q2) hgv hrw) (by first | exact True.intro | (show _ < _; decide)) rfl rfl (fun _ _ => ?_))) <;> (try ((refine o_buildSlice (by decide) rfl rfl rfl (fun _ => ?_)))) <;> (try (refine o_appendT (cells := rwc) (xs := L) (ys := [rowP P (q1, q2)]) rwc_len rwc_one (by decide) rfl rfl rfl rfl rfl (by simp only [List.length_cons, List.length_nil]; omega) (by simp only [maxLen, List.length_cons, List.length_nil]; omega) (fun a' cap' hc' => ?_))) <;> (try (first | refine o_as (v := .slice _ _ _) (by decide) rfl ?_ | refine o_as (by decide) rfl ?_)) <;> (try (refine ops_nilk ?_; intro _)) <;> (try ((first | refine keep_cons (v := .pointer _) rfl ?_ | refine keep_cons (v := _) rfl ?_) <;> (first | refine keep_cons (v := .int _ _) rfl ?_ | refine keep_cons (v := _) rfl ?_) <;> (first | refine keep_cons (v := .slice _ _ _) rfl ?_ | refine keep_cons (v := _) rfl ?_) <;> (first | refine keep_cons (v := .pointer _) rfl ?_ | refine keep_cons (v := _) rfl ?_) <;> (first | refine keep_cons (v := .slice _ _ _) rfl ?_ | refine keep_cons (v := _) rfl ?_) <;> (first | refine keep_cons (v := .int _ _) rfl ?_ | refine keep_cons (v := _) rfl ?_) <;> (first | refine keep_cons (v := .int _ _) rfl ?_ | refine keep_cons (v := _) rfl ?_))) <;> (try refine keep_nil ?_))) | refine wC ?_ | (refine ex_split rfl ?_ ?_ <;> intro hc))
        refine Ex.ent (H' := cl true b [.int .i64 s, .int .i64 d, .int .i64 k, .map (some mb)] 114 (0, 0) * (pm mb (TM k Q) * (cl true b7 (plc (q1, q2)) 135 (0, 0) * (ow 67 5 a' (L ++ [rowP P (q1, q2)]).length cap' ((L ++ [rowP P (q1, q2)]).flatMap rwc) * (ow 135 2 (some ad) P.length pc0 ((pkeys P).flatMap plc) * H))))) ?_ (by unfold PT PN; exact ent_take)
        repeat' (first | (refine rA 7 [0, 1, 5, 9, 10, 11] 6 ?_; (refine os_butP (pm mb (TM k Q)) ?_); ((refine lQ 0 ?_; ((refine lQ 1 ?_; ((refine lQ 2 ?_; ((refine lQ 3 ?_; ((refine lC (v := ?_) 4 ?_ ?_; rotate_left; (focus ((refine o_load_a (vs := plc (q1, q2)) (by decide) rfl rfl ?_) <;> exact lL)); ((refine oN 5 ?_ <;> (refine o_pmDel (b := mb) (M := TM k Q) (p := (q1, q2)) rfl rfl rfl ?_) <;> (refine os_nil ?_) <;> ((refine dK ?_; intro _))))))))))))))) | refine wC ?_ | (refine ex_split rfl ?_ ?_ <;> intro hc))
        all_goals
          repeat' (first | (refine rG 8 [0, 1, 5, 9, 10, 11] ?_; ((try (refine wK ?_; intro _)))) | refine wC ?_ | (refine ex_split rfl ?_ ?_ <;> intro hc))
          rw [ei]
          refine ⟨P.length - (i + 1), by omega, _, ?_, _, i + 1, L ++ [rowP P (q1, q2)], pdel Q (q1, q2), a', cap', rfl, rfl, hL1, hQ1, by omega, hc', rfl⟩
          rw [tm_del]
          exact ent_take
      | false =>
        have hL1 : L = (((pkeys P).take (i + 1)).filter (due s mark)).map (rowP P) := by
          rw [hT, List.filter_append, List.map_append, hL]; simp [hdue]
        have hQ1 : Q = (((pkeys P).take (i + 1)).filter (due s mark)).foldl pdel P := by
          rw [hT, List.filter_append, List.foldl_append, hQ]; simp [hdue]
        have hdd : decide (IntKind.i64.wrap ((pkeys P)[i].1 + s) > mark) = true := by
          have := of_decide_eq_false hdue; exact decide_eq_true (by omega)
        generalize (pkeys P)[i] = q at *
        obtain ⟨q1, q2⟩ := q
        repeat' (first | (refine rG 3 [0, 1, 5, 9, 10, 11, 12] ?_; ((try (refine wK ?_; intro _)))) | (refine ex_regk (id := 4) (ts := [0, 1, 5, 7, 9, 10, 11]) ?_; ((try (refine o_index (by decide) rfl rfl (by first | decide | assumption | omega) (by first | decide | assumption | omega) ?_)) <;> (try (refine o_load_ra (vs := plc (q1, q2)) (by decide) rfl hv ?_)) <;> (try ((refine o_alloc_a (by decide) (fun b7 => ?_)))) <;> (try (first | refine o_store_a rfl rfl rfl rfl rfl ?_ | refine o_store_oa rfl rfl rfl (Nat.succ_pos _) rfl (by assumption) ?_)) <;> (try (refine ops_nilk ?_; intro _)) <;> (try ((first | refine keep_cons (v := .pointer _) rfl ?_ | refine keep_cons (v := _) rfl ?_) <;> (first | refine keep_cons (v := .int _ _) rfl ?_ | refine keep_cons (v := _) rfl ?_) <;> (first | refine keep_cons (v := .slice _ _ _) rfl ?_ | refine keep_cons (v := _) rfl ?_) <;> (first | refine keep_cons (v := .pointer _) rfl ?_ | refine keep_cons (v := _) rfl ?_) <;> (first | refine keep_cons (v := .slice _ _ _) rfl ?_ | refine keep_cons (v := _) rfl ?_) <;> (first | refine keep_cons (v := .int _ _) rfl ?_ | refine keep_cons (v := _) rfl ?_) <;> (first | refine keep_cons (v := .int _ _) rfl ?_ | refine keep_cons (v := _) rfl ?_))) <;> (try refine keep_nil ?_))) | refine wC ?_ | (refine ex_split rfl ?_ ?_ <;> intro hc))
        refine Ex.ent ?_ (ent_clL (b := b7) (l' := plc (q1, q2)) rfl)
        repeat' (first | (refine rA 5 [0, 1, 5, 7, 9, 10, 11, 23] 9 ?_; (refine os_all ?_); ((refine lQ 0 ?_; ((refine lQ 1 ?_; ((refine lQ 2 ?_; ((refine lQ 3 ?_; ((refine lQ 4 ?_; ((refine lQ 5 ?_; ((refine lQ 6 ?_; ((refine lQ 7 ?_; ((refine lQ 8 ?_; ((refine dK ?_; intro _))))))))))))))))))))) | (refine rG 8 [0, 1, 5, 9, 10, 11] ?_; ((try (refine wK ?_; intro _)))) | refine wC ?_ | (refine ex_split rfl ?_ ?_ <;> intro hc))
        rw [ei]
        refine ⟨P.length - (i + 1), by omega, _, ?_, _, i + 1, L, Q, ra, rc, rfl, rfl, hL1, hQ1, by omega, hrc, rfl⟩
        exact ent_take
    · have hil : i = P.length := by omega
      subst hil
      have hd : decide ((P.length : Int) < (P.length : Int)) = false := by simp
      have hLe : L = clR s mark P := by rw [hL, List.take_of_length_le (by omega)]; rfl
      have hQe : Q = clP s mark P := by rw [hQ, List.take_of_length_le (by omega)]; rfl
      repeat' (first | (refine rG 3 [0, 1, 5, 9, 10, 11, 12] ?_; ((try (refine wK ?_; intro _)))) | (refine rG 9 [4] ?_; ((try (refine wK ?_; intro _)))) | refine wC ?_ | (refine ex_split rfl ?_ ?_ <;> intro hc))
      rw [← hLe, ← hQe]
      exact fin (.inr rfl) (ra, rc) (resl1 rfl (rv_tmp rfl)) hrc (by unfold PT PN; exact ent_take)
end Go.Proofs.YtcelailgedndnaaGreatS
