/- Contracts of the functions that the statement reaches: the walk of the program by the small logic, part 2: Sq, Sr, Ss, St, Su, Sv, Sw, Sx, Sy, Ta, Tc, Te, Tb, Tp, Ty. No condition beyond what each theorem states. -/
import Derived.Test.YtcelailgedndnaaGreatZ1
namespace Go.Proofs.YtcelailgedndnaaGreatS
set_option linter.unusedSectionVars false
variable [DR]
open Go.RowKit
set_option linter.unusedVariables false
set_option linter.unusedSimpArgs false
variable {P : Program} {n : Nat} {ops : Array Oper} {rest : List Oper} {e : Env} {H : HP} {Φ : Post} {d : Nat} {ty : TypeId} {ps : String} {af : Array Edge} {K : Env → HP → Prop} {fuel : Nat} {listed : Array Bool}
theorem o_eqPN {x : Operand} {p : Option Addr} {t u : TypeId} (hd : d < n) (hx : ev e x = .pointer p) (hu : P.underlying t = some (.pointer (P.pointee t))) (k : Ops P n ops rest (put e d (.bool p.isNone)) H Φ) :
    Ops P n ops (⟨some d, .binOp .eql t x (.const (.pointer none)) u, ty, ps, af, none⟩ :: rest) e H Φ :=
  o_rfl hd (fun w => by
    have hc : ev e (.const (.pointer none)) = .pointer none := rfl
    have hg : ∀ w, (eqGuard .eql t x (.const (.pointer none)) (.pointer p) (.pointer none)).run P w = .ok () w := fun _ => rfl
    simp only [execOp, hx, hc, Sem.run_bind, hg, run_eql_pointer_nil w t p hu, Result.andThen_ok]; rfl) k
theorem o_min3 {x y z : Operand} {k : IntKind} {a b c0 : Int} {u : Array TypeId} (hd : d < n) (hx : ev e x = .int k a) (hy : ev e y = .int k b) (hz : ev e z = .int k c0) (c : Ops P n ops rest (put e d (.int k (if c0 < (if b < a then b else a) then c0 else (if b < a then b else a)))) H Φ) :
    Ops P n ops (⟨some d, .call ⟨.builtin .min, #[x, y, z], u⟩, ty, ps, af, none⟩ :: rest) e H Φ :=
  o_rfl hd (fun w => by simp [execOp, resolve, invoke, builtin, hx, hy, hz, Builtin.min_, Builtin.min2]) c
instance (priority := 100) hasO_none (el sz : Nat) (H : HP) : HasO H el sz none 0 0 [] H := ⟨Ent.ow_none el sz H⟩
section
variable {x y : Operand}
theorem oa_nilc (i : Nat) {a : Addr} (hi : ops[i]? = some ⟨some d, .nilCheck x, ty, ps, af, none⟩) (hns : Region.noSelect ops = true) (hfree : Region.free .any ops listed i = true) (hready : (Region.ready .any ops listed).contains i = true) (hd : d < n) (hx : ev e x = .pointer (some a))
    (c : OA P n ops fuel (listed.setIfInBounds i true) (put e d (.pointer (some a))) H K) : OA P n ops (fuel + 1) listed e H K := oa_first i hi hns hfree hready hd (fun w => by simp only [execOp, hx]; rfl) c
theorem oa_field (i : Nat) {b o s j off : Nat} [f : Fld P s j off] (hi : ops[i]? = some ⟨some d, .fieldAddr s x j, ty, ps, af, none⟩) (hns : Region.noSelect ops = true) (hfree : Region.free .any ops listed i = true) (hready : (Region.ready .any ops listed).contains i = true) (hd : d < n) (hx : ev e x = .pointer (some ⟨b, o, none⟩))
    (c : OA P n ops fuel (listed.setIfInBounds i true) (put e d (.pointer (some ⟨b, o + off, none⟩))) H K) : OA P n ops (fuel + 1) listed e H K := oa_first i hi hns hfree hready hd (fun w => by simp only [execOp, hx]; simp [f.addr, add_none]) c
theorem oa_indexA (i : Nat) {b o : Nat} {len el sz at_ : Nat} {k : IntKind} {m : Int} [f : Arr P at_ len el sz] (hi : ops[i]? = some ⟨some d, .indexAddr at_ x y, ty, ps, af, none⟩) (hns : Region.noSelect ops = true) (hfree : Region.free .any ops listed i = true) (hready : (Region.ready .any ops listed).contains i = true) (hd : d < n) (hx : ev e x = .pointer (some ⟨b, o, none⟩)) (hy : ev e y = .int k m) (h0 : 0 ≤ m) (h1 : m < len)
    (c : OA P n ops fuel (listed.setIfInBounds i true) (put e d (.pointer (some ⟨b, o + m.toNat * sz, none⟩))) H K) : OA P n ops (fuel + 1) listed e H K := oa_first i hi hns hfree hready hd (fun w => by simp only [execOp, hx, hy]; simp [Instr.indexAt, asIntOf, run_underlying f.und, f.size, h0, h1, Instr.sureAddr, add_none]) c
end
end Go.Proofs.YtcelailgedndnaaGreatS
namespace Go.Proofs.YtcelailgedndnaaGreatS
set_option linter.unusedSectionVars false
variable [DR]
open Go.RowKit
set_option linter.unusedVariables false
set_option linter.unusedSimpArgs false
variable {P : Program} {n : Nat} {ops : Array Oper} {rest : List Oper} {e : Env} {H : HP} {Φ : Post} {d : Nat} {ty : TypeId} {ps : String} {af : Array Edge}
theorem o_slice3S {x y q : Operand} {a : Option Addr} {len cap st el sz bt : Nat} {z : List Value} {h : Nat} {k k2 : IntKind} {i i2 : Int} {cs : List Value} [f : Slc P st el sz bt z] [hrd : RdC H a cs] (hd : d < n) (hx : ev e x = .slice a len cap) (hy : ev e y = .int k i) (hq : ev e q = .int k2 i2) (hi : i.toNat = h) (hi2 : i2 = i) (h0 : 0 ≤ i) (hc : i ≤ cap) (hp : 0 < (cs.take (h * sz)).length)
    (c : ∀ ad, (∀ H' [RdC H' a cs], RdC H' (some ad) (cs.take (h * sz))) → Ops P n ops rest (put e d (.slice (some ad) h h)) H Φ) : Ops P n ops (⟨some d, .slice st x none (some y) (some q), ty, ps, af, none⟩ :: rest) e H Φ := by
  subst hi2
  obtain rfl : i2 = (h : Int) := by omega
  refine Ops.rd_some (a := a) (l := cs) (by rw [List.length_take] at hp; omega) (fun ad ha => ?_)
  subst ha
  have key : ∀ w, (execOp (ev e) ⟨some d, .slice st x none (some y) (some q), ty, ps, af, none⟩).run P w = .ok (.value (.slice (if h = 0 then some ad else (some ad).map (·.add (0 * sz))) (h - 0) (h - 0))) w := fun w => by
    simp only [execOp, hx]
    have hb : (Instr.sliceBounds true len cap (none : Option Value) (some (ev e y)) (some (ev e q))).run P w = .ok (0, h, h) w := by
      simp [Instr.sliceBounds, Instr.sliceBound, hy, hq, asIntOf]; omega
    have hb' : (Instr.sliceBounds true len cap ((none : Option Operand).map (ev e)) ((some y).map (ev e)) ((some q).map (ev e))).run P w = .ok (0, h, h) w := hb
    simp [Instr.sliceAt, Instr.slice, run_underlying f.und, hb, f.size]
  have hh : h ≠ 0 := by intro hz; subst hz; simp at hp
  rw [if_neg hh] at key
  refine o_rfl hd key ?_
  have e1 : (some ad).map (fun v : Addr => v.add (0 * sz)) = some (ad.add (0 * sz)) := rfl
  rw [e1, Nat.sub_zero]
  refine c _ (fun H' hr => ⟨?_⟩)
  have := hr.rd.cut (lo := 0 * sz) (hi := h * sz) false
  simpa using this
end Go.Proofs.YtcelailgedndnaaGreatS
namespace Go.Proofs.YtcelailgedndnaaGreatS
set_option linter.unusedSectionVars false
variable [DR]
open Go.RowKit
set_option linter.unusedVariables false
variable {P : Program} {n : Nat} {ops : Array Oper} {rest : List Oper} {e : Env} {H : HP} {Φ : Post} {d : Nat} {ty : TypeId} {ps : String} {af : Array Edge} {K : Env → HP → Prop} {fuel : Nat} {listed : Array Bool}
theorem oa_len (i : Nat) {x : Operand} {a : Option Addr} {len cap st el sz bt : Nat} {z : List Value} {u : Array TypeId} [f : Slc P st el sz bt z] (hi : ops[i]? = some ⟨some d, .call ⟨.builtin .len, #[x], u⟩, ty, ps, af, none⟩) (hns : Region.noSelect ops = true) (hfree : Region.free .any ops listed i = true) (hready : (Region.ready .any ops listed).contains i = true) (hd : d < n) (hx : ev e x = .slice a len cap) (hu : u = #[st])
    (c : OA P n ops fuel (listed.setIfInBounds i true) (put e d (.int .i64 (len : Int))) H K) : OA P n ops (fuel + 1) listed e H K := oa_first i hi hns hfree hready hd (fun w => by subst hu; simp [execOp, resolve, invoke, builtin, hx, Builtin.len_, run_underlying f.und, goInt]) c
end Go.Proofs.YtcelailgedndnaaGreatS
namespace Go.Proofs.YtcelailgedndnaaGreatS
set_option linter.unusedSectionVars false
variable [DR]
open Go.RowKit
set_option linter.unusedVariables false
set_option linter.unusedSimpArgs false
variable {P : Program} {n : Nat} {ops : Array Oper} {rest : List Oper} {e : Env} {H : HP} {Φ : Post} {d : Nat} {ty : TypeId} {ps : String} {af : Array Edge}
theorem Ent.dropL (A B : HP) : Ent (A * B) B := by rw [sep_comm]; exact Ent.dropR _ _
theorem ow_shrink {el sz m k cap : Nat} {a : Option Addr} {l news : List Value} (hl : l.length = m * sz) (hc : m ≤ cap) : Ent (ow el sz a (m + k) cap (l ++ news)) (ow el sz a m cap l) := fun w0 w F s => by
  obtain ⟨h1, h2, h3, h4⟩ := ow_cases s
  rcases h4 with ⟨hc0, sF⟩ | ⟨g, cur, rfl, hcur, ht, sg⟩
  · obtain ⟨r, hr, hm⟩ := sF.mem
    have hm0 : m = 0 := by omega
    refine ⟨s.os, s.tape, s.output, s.size, r, ⟨fun _ => none, r, fun _ => rfl, ⟨hl, hc, h3, .inl ⟨hc0, fun _ => rfl⟩⟩, hr⟩, hm⟩
  · refine ow_mk hl hc h3 hcur ?_ sg
    have e1 := congrArg (List.take (m * sz)) ht
    rw [List.take_take, Nat.min_eq_left (Nat.mul_le_mul_right _ (Nat.le_add_right _ _)), ← hl, List.take_left] at e1
    rw [← hl]; exact e1
theorem append_keep {st el sz bt : Nat} {z : List Value} [f : Slc P st el sz bt z] {a b : Option Addr} {m cap k ck : Nat} {l news : List Value} {R : HP} {ty : TypeId} (hrd : RdP R b news) (hl : news.length = k * sz) (h1 : ∀ u ∈ news, u.oneCell' = true)
    (hb : (m + k) * bt ≤ 140737488355328) (hk : m + k ≤ maxLen) {w0 w : World} {F : HP} (s : Sat w0 w (ow el sz a m cap l * (R * F))) :
    ∃ a' cap' w' K, (Builtin.append_ #[st, st] ty #[.slice a m cap, .slice b k ck]).run P w = .ok (.slice a' (m + k) cap') w' ∧ Sat w0 w' (K * F) ∧ m + k ≤ cap' ∧ RdC K a' (l ++ news) ∧ Ent K (ow el sz a m cap l * R) := by
  have sR := s.drop
  have hpos := f.pos
  obtain ⟨i, zv, hi, hbt, hsz, hz, hzc⟩ := f.info
  obtain ⟨hlen, hmc, hcm, hcase⟩ := ow_cases s
  have hlenA : (l ++ news).length = (m + k) * sz := by rw [List.length_append, hlen, hl, Nat.add_mul]
  have hm63 : m + k ≤ 9223372036854775807 := by simp only [maxLen] at hk; omega
  by_cases hk0 : k = 0
  · -- nothing is appended
    subst hk0
    have hn : news = [] := List.eq_nil_of_length_eq_zero (by simpa using hl)
    subst hn
    refine ⟨a, cap, w, ow el sz a m cap l * R, ?_, by rw [sep_assoc]; exact s, by omega, by rw [List.append_nil]; infer_instance, Ent.refl _⟩
    have hroom : m + 0 ≤ cap := by omega
    cases b with
    | none =>
      cases a with
      | none => simp [Builtin.append_, run_underlying f.und, f.size, Builtin.lenOf, hmc, Builtin.firstCells]
      | some a => simp [Builtin.append_, run_underlying f.und, f.size, Builtin.lenOf, hmc, Builtin.firstCells, storeCells]
    | some b =>
      cases a with
      | none => simp [Builtin.append_, run_underlying f.und, f.size, Builtin.lenOf, hmc, Builtin.firstCells, loadCells, loadCellsFrom]
      | some a => simp [Builtin.append_, run_underlying f.und, f.size, Builtin.lenOf, hmc, Builtin.firstCells, loadCells, loadCellsFrom, storeCells]
  · have hne : 0 < news.length := by rw [hl]; exact Nat.mul_pos (by omega) hpos
    obtain ⟨bd, rfl⟩ := (hrd.some hne sR)
    have hnews : ∀ j v, news[j]? = some v → w.cell? (bd.add j) = some v := fun j v hj => by
      obtain ⟨ad, ha, hc⟩ := hrd w0 w F sR j v hj
      cases ha; exact hc
    have hl' : news.length = k * i.size := by rw [hsz]; exact hl
    have grown : ∀ old, old < m + k →
        Sat w0 (w.drew.alloc (.cells (l.toArray ++ news.toArray ++ Builtin.zeroCells zv.cells (grownCap w (m + k) old el - (m + k))) el))
          (ow el sz (some ⟨w.heap.size, 0, none⟩) (m + k) (grownCap w (m + k) old el) (l ++ news) * (ow el sz a m cap l * (R * F))) := fun old ho => by
      have hge := grownCap_ge w (m + k) old el
      have hcm' := grownCap_le_maxLen w (m + k) old el hk
      have hzs : zv.cells.size = sz := by rw [hzc]; simpa using f.zsz
      have s1 := s.drew.alloc (.cells (l.toArray ++ news.toArray ++ Builtin.zeroCells zv.cells (grownCap w (m + k) old el - (m + k))) el)
      refine ow_mk (cur := (l.toArray ++ news.toArray ++ Builtin.zeroCells zv.cells (grownCap w (m + k) old el - (m + k))).toList) hlenA hge hcm' ?_ ?_ ?_
      · simp only [Array.length_toList, Array.size_append, List.size_toArray, size_zeroCells, hzs, hlen, hl, ← Nat.add_mul]
        congr 1
        omega
      · simp only [Array.toList_append]
        rw [← hlenA]
        exact List.take_left
      · unfold cl; rw [Array.toArray_toList]; exact s1
    rcases hcase with ⟨hc0, _⟩ | ⟨g, cur, rfl, hcur, htake, sg⟩
    · have hm0 : m = 0 := by omega
      subst hm0; subst hc0
      have hl0 : l = [] := List.eq_nil_of_length_eq_zero (by simpa using hlen)
      subst hl0
      cases a with
      | none =>
        have hr := run_append_nil (P := P) w st ty el i zv f.und hi hz bd k ck news hl' hnews (by omega) (by omega) (by rw [hbt]; simp only [Nat.zero_add] at hb; omega)
        have hg := grown 0 (by omega)
        simp only [Nat.zero_add, List.nil_append, Array.empty_append] at hg hr ⊢
        exact ⟨_, _, _, ow el sz (some ⟨w.heap.size, 0, none⟩) k (grownCap w k 0 el) news * (ow el sz none 0 0 [] * R), hr, by rw [sep_assoc, sep_assoc]; exact hg, grownCap_ge _ _ _ _, inferInstance, Ent.dropL _ _⟩
      | some a0 =>
        have hr := run_append_grow (P := P) w st ty el i zv f.und hi hz a0 0 0 [] (by simp) (by simp) bd k ck news hl' hnews (by omega) (by omega) (growslice_fits (by omega) (by rw [hbt]; exact hb))
        exact ⟨_, _, _, ow el sz (some ⟨w.heap.size, 0, none⟩) (0 + k) (grownCap w (0 + k) 0 el) ([] ++ news) * (ow el sz (some a0) 0 0 [] * R), hr, by rw [sep_assoc, sep_assoc]; exact grown 0 (by omega), grownCap_ge _ _ _ _, inferInstance, Ent.dropL _ _⟩
    · by_cases hroom : m + k ≤ cap
      · have hg0 : w.heap[g]? = some (.cells cur.toArray el (0, 0)) := sg.heapCl
        have hfit : m * i.size + news.length ≤ cur.toArray.size := by
          rw [hsz, hl]; simp only [List.size_toArray]; rw [hcur, ← Nat.add_mul]; exact Nat.mul_le_mul_right _ hroom
        have hr := run_append_room (P := P) w st ty el i f.und hi g m cap cur.toArray hg0 bd k ck news hl' hnews h1 hroom hfit
        have hc2 : (cur.take (m * i.size) ++ news ++ cur.drop (m * i.size + news.length)).length = cap * sz := by
          simp only [List.length_append, List.length_take, List.length_drop]
          simp only [List.size_toArray] at hfit
          omega
        have ht2 : (cur.take (m * i.size) ++ news ++ cur.drop (m * i.size + news.length)).take ((m + k) * sz) = l ++ news := by
          rw [hsz, htake, ← hlenA]
          exact List.take_left
        have hk2 := ow_mk hlenA hroom hcm hc2 ht2 (sg.setRow (l' := (cur.take (m * i.size) ++ news ++ cur.drop (m * i.size + news.length))))
        exact ⟨_, _, _, ow el sz (some ⟨g, 0, none⟩) (m + k) cap (l ++ news) * R, hr, by rw [sep_assoc]; exact hk2, hroom, inferInstance, (ow_shrink hlen (by omega)).frame R⟩
      · have holds : ∀ j u, l[j]? = some u → w.cell? ((⟨g, 0, none⟩ : Addr).add j) = some u := fun j u hj => by
          rw [add_none, cell_at sg.heapCl, Nat.zero_add]
          rw [← htake, List.getElem?_take] at hj
          split at hj
          · exact hj
          · cases hj
        have hr := run_append_grow (P := P) w st ty el i zv f.und hi hz ⟨g, 0, none⟩ m cap l (by rw [hsz]; exact hlen) holds bd k ck news hl' hnews (by omega) (by omega) (growslice_fits (by omega) (by rw [hbt]; exact hb))
        exact ⟨_, _, _, ow el sz (some ⟨w.heap.size, 0, none⟩) (m + k) (grownCap w (m + k) cap el) (l ++ news) * (ow el sz (some ⟨g, 0, none⟩) m cap l * R), hr, by rw [sep_assoc, sep_assoc]; exact grown cap (by omega), grownCap_ge _ _ _ _, inferInstance, Ent.dropL _ _⟩
theorem o_appendK {x y : Operand} {st el sz bt : Nat} {z : List Value} [f : Slc P st el sz bt z] {a b : Option Addr} {m cap k ck : Nat} {l news : List Value} {R : HP} {u : Array TypeId} (hd : d < n) (hx : ev e x = .slice a m cap) (hy : ev e y = .slice b k ck) (hu : u = #[st, st])
    [ho : HasO H el sz a m cap l R] [hrd : RdC R b news] (hl : news.length = k * sz) (h1 : ∀ v ∈ news, v.oneCell' = true) (hb : (m + k) * bt ≤ 140737488355328) (hk : m + k ≤ maxLen)
    (c : ∀ a' cap' K, m + k ≤ cap' → RdC K a' (l ++ news) → Ent K (ow el sz a m cap l * R) → Ops P n ops rest (put e d (.slice a' (m + k) cap')) K Φ) : Ops P n ops (⟨some d, .call ⟨.builtin .append, #[x, y], u⟩, ty, ps, af, none⟩ :: rest) e H Φ :=
  ops_step rfl hd fun w0 w F s => by
    subst hu
    have s1 := ho.ent _ _ _ s
    rw [sep_assoc] at s1
    obtain ⟨a', cap', w', K, hr, s', h2, h3, h4⟩ := append_keep (P := P) (st := st) (ck := ck) (ty := ty) hrd.rd hl h1 hb hk s1
    refine ⟨Next.value (.slice a' (m + k) cap'), w', K, ?_, c a' cap' K h2 h3 h4, s'⟩
    simp [execOp, resolve, invoke, builtin, hx, hy, hr]
end Go.Proofs.YtcelailgedndnaaGreatS
namespace Go.Proofs.YtcelailgedndnaaGreatS
set_option linter.unusedSectionVars false
variable [DR]
open Go.RowKit
set_option linter.unusedVariables false
variable {P : Program} {n : Nat} {ops : Array Oper} {rest : List Oper} {e : Env} {H : HP} {Φ : Post} {d : Nat} {ty : TypeId} {ps : String} {af : Array Edge} {K : Env → HP → Prop} {fuel : Nat} {listed : Array Bool}
theorem oa_int (i : Nat) {x y : Operand} {op : BinOp} {k : IntKind} {a b : Int} {v : Value} {t u : TypeId} (hi : ops[i]? = some ⟨some d, .binOp op t x y u, ty, ps, af, none⟩) (hns : Region.noSelect ops = true) (hfree : Region.free .any ops listed i = true) (hready : (Region.ready .any ops listed).contains i = true) (hd : d < n) (hx : ev e x = .int k a) (hy : ev e y = .int k b) (hv : io op k a b = some v)
    (c : OA P n ops fuel (listed.setIfInBounds i true) (put e d v) H K) : OA P n ops (fuel + 1) listed e H K := oa_first i hi hns hfree hready hd (fun w => by
    simp only [execOp, hx, hy]
    cases op <;> simp only [io, Option.some.injEq, reduceCtorEq] at hv <;> subst hv <;> simp [eqGuard, binOp, Op.intArith, Op.intCmp, Op.intBits, bits]) c
end Go.Proofs.YtcelailgedndnaaGreatS
namespace Go.Proofs.YtcelailgedndnaaGreatS
set_option linter.unusedSectionVars false
variable [DR]
open Go.RowKit
set_option linter.unusedVariables false
variable {P : Program} {n : Nat} {ops : Array Oper} {rest : List Oper} {e : Env} {H : HP} {Φ : Post} {d : Nat} {ty : TypeId} {ps : String} {af : Array Edge} {K : Env → HP → Prop} {fuel : Nat} {listed : Array Bool}
theorem wp_oneG (j : Nat) {o : Oper} {a : Act} {w0 w : World} {F : HP} (r : Rep n e a) (s : Sat w0 w (H * F)) (hi : ops[j]? = some o)
    (h : Ops P n ops [o] e H (fun x e' H' => x = .normal ∧ OA P n ops fuel (listed.setIfInBounds j true) e' H' K)) : wpOp P ops (QQ w0 F n (fun x e H => x = .normal ∧ K e H)) j (wpAny P .any ops (QQ w0 F n (fun x e H => x = .normal ∧ K e H)) fuel (listed.setIfInBounds j true)) a w := by
  have h1 := h a w0 w F r s
  unfold wpList at h1
  unfold wpOp
  simp only [hi]
  have step : ∀ a w, wpList P ops (QQ w0 F n (fun x e' H' => x = .normal ∧ OA P n ops fuel (listed.setIfInBounds j true) e' H' K)) [] a w → wpAny P .any ops (QQ w0 F n (fun x e H => x = .normal ∧ K e H)) fuel (listed.setIfInBounds j true) a w :=
    fun a w ⟨e', H', r', ⟨_, ho⟩, s'⟩ => ho a w0 w F r' s'
  by_cases hw : Region.wanted o (yielded ops a.tmps) = true
  · rw [if_pos hw] at h1 ⊢
    rcases h1 with h1 | ⟨_, a', w', e', H', _, ⟨hx, _⟩, _⟩
    · left
      unfold Oper.wp at h1 ⊢
      revert h1
      generalize (execOp a.eval o).run P w = res
      have nope : ∀ c a w, ¬ QQ w0 F n (fun x e' H' => x = .normal ∧ OA P n ops fuel (listed.setIfInBounds j true) e' H' K) (.panic c) a w := fun c a w ⟨_, _, _, ⟨hx, _⟩, _⟩ => by cases hx
      have nopeo : ¬ LetsOut (QQ w0 F n (fun x e' H' => x = .normal ∧ OA P n ops fuel (listed.setIfInBounds j true) e' H' K)) := fun ⟨_, _, _, _, _, ⟨hx, _⟩, _⟩ => by cases hx
      cases res with
      | ok nx w1 =>
        cases nx <;> simp only [Oper.upon] <;> intro h1 <;>
          first
            | exact h1.elim
            | exact step _ _ h1
            | exact Calls.mono h1 (fun e w'' he => by
                cases e with
                | returned v => exact step _ _ he
                | panicked c => exact absurd he (nope _ _ _)
                | outgrown => exact absurd he nopeo)
            | exact Rows.mono h1 (fun _ _ he => step _ _ he)
      | halt hh w1 =>
        cases hh <;> simp only [Oper.upon] <;> intro h1 <;> first | exact h1.elim | exact absurd h1 (nope _ _ _)
    · cases hx
  · rw [if_neg hw] at h1 ⊢
    exact step _ _ h1
theorem oa_oneG (i : Nat) {o : Oper} (hr : Region.ready .any ops listed = [i]) (hi : ops[i]? = some o)
    (h : Ops P n ops [o] e H (fun x e' H' => x = .normal ∧ OA P n ops fuel (listed.setIfInBounds i true) e' H' K)) : OA P n ops (fuel + 1) listed e H K := fun a w0 w F r s => by
  refine And.intro (fun h0 => by rw [hr] at h0; simp at h0) (fun j hj => ?_)
  rw [hr] at hj
  obtain rfl : j = i := by simpa using hj
  exact wp_oneG j r s hi h
theorem oa_twoG (i j : Nat) {o q : Oper} (hr : Region.ready .any ops listed = [i, j]) (hi : ops[i]? = some o) (hj : ops[j]? = some q)
    (h : Ops P n ops [o] e H (fun x e' H' => x = .normal ∧ OA P n ops fuel (listed.setIfInBounds i true) e' H' K))
    (k : Ops P n ops [q] e H (fun x e' H' => x = .normal ∧ OA P n ops fuel (listed.setIfInBounds j true) e' H' K)) : OA P n ops (fuel + 1) listed e H K := fun a w0 w F r s => by
  refine And.intro (fun h0 => by rw [hr] at h0; simp at h0) (fun m hm => ?_)
  rw [hr] at hm
  have hm2 : m = i ∨ m = j := by simpa using hm
  rcases hm2 with rfl | rfl
  · exact wp_oneG m r s hi h
  · exact wp_oneG m r s hj k
/-- A guarded one that is wanted and only reckons. -/
theorem oa_firstY (i : Nat) {op : Op} {v : Value} {j t : Nat} {bw : Bool} (hi : ops[i]? = some ⟨some d, op, ty, ps, af, some (j, bw)⟩) (hns : Region.noSelect ops = true) (hfree : Region.free .any ops listed i = true) (hready : (Region.ready .any ops listed).contains i = true) (hd : d < n)
    (hj : (ops[j]?).bind (·.dst) = some t) (hn : t < n) (hb : e t = .bool bw)
    (h : ∀ w, (execOp (ev e) ⟨some d, op, ty, ps, af, some (j, bw)⟩).run P w = .ok (.value v) w) (k : OA P n ops fuel (listed.setIfInBounds i true) (put e d v) H K) : OA P n ops (fuel + 1) listed e H K := fun a w0 w F r s => by
  have hv := r.val t
  rw [hb] at hv
  have ht : a.tmps[t]? = some (.bool bw) := by
    have hs := r.size
    rw [Array.getD_eq_getD_getElem?, Array.getElem?_eq_getElem (by omega)] at hv
    rw [Array.getElem?_eq_getElem (by omega)]
    exact congrArg some hv
  have hy : Region.wanted ⟨some d, op, ty, ps, af, some (j, bw)⟩ (yielded ops a.tmps) = true := by
    unfold Region.wanted yielded
    simp [hj, ht]
  refine wpAny_first (v := v) hi (Region.noSelect_spec hns) ?_ fuel listed a w (Region.free_spec hi hfree) (by simpa using hready) (.inl ⟨hy, fun w => by rw [r.eval]; exact h w⟩) (k _ w0 w F (r.put hd v) s)
  intro c a w hq
  obtain ⟨e', H', _, hh, _⟩ := hq
  exact absurd hh.1 (by simp)
/-- A guarded one that isn't wanted. -/
theorem oa_firstN (i : Nat) {op : Op} {j t : Nat} {bw : Bool} (hi : ops[i]? = some ⟨some d, op, ty, ps, af, some (j, bw)⟩) (hns : Region.noSelect ops = true) (hfree : Region.free .any ops listed i = true) (hready : (Region.ready .any ops listed).contains i = true) (hd : d < n)
    (hj : (ops[j]?).bind (·.dst) = some t) (hn : t < n) (hb : e t = .bool (!bw) ∨ e t = undef)
    (k : OA P n ops fuel (listed.setIfInBounds i true) (put e d undef) H K) : OA P n ops (fuel + 1) listed e H K := fun a w0 w F r s => by
  have hv := r.val t
  have ht : a.tmps[t]? = some (e t) := by
    have hs := r.size
    rw [Array.getD_eq_getD_getElem?, Array.getElem?_eq_getElem (by omega)] at hv
    rw [Array.getElem?_eq_getElem (by omega)]
    exact congrArg some hv
  have hy : Region.wanted ⟨some d, op, ty, ps, af, some (j, bw)⟩ (yielded ops a.tmps) = false := by
    unfold Region.wanted yielded
    rcases hb with hb | hb <;> rw [hb] at ht
    · cases bw <;> simp [hj, ht]
    · simp only [hj, Option.bind_some, ht]; rfl
  refine wpAny_first (v := undef) hi (Region.noSelect_spec hns) ?_ fuel listed a w (Region.free_spec hi hfree) (by simpa using hready) (.inr ⟨hy, rfl⟩) (k _ w0 w F (r.put hd undef) s)
  intro c a w hq
  obtain ⟨e', H', _, hh, _⟩ := hq
  exact absurd hh.1 (by simp)
end Go.Proofs.YtcelailgedndnaaGreatS
namespace Go.Proofs.YtcelailgedndnaaGreatS
set_option linter.unusedSectionVars false
variable [DR]
open Go.RowKit
set_option linter.unusedVariables false
variable {P : Program} {n : Nat} {ops : Array Oper} {H : HP} {K : Env → HP → Prop}
theorem OA.ent {fuel : Nat} {listed : Array Bool} {e : Env} {H' : HP} (h : OA P n ops fuel listed e H K) (k : Ent H' H) : OA P n ops fuel listed e H' K := fun a w0 w F r s => h a w0 w F r (k _ _ _ s)
/-- What the i-th operation yields, and where. -/
def Vl (l : List (Nat × Value)) (i : Nat) : Nat × Value := (l[i]?).getD (0, undef)
/-- The frame, when those of the first m that were not listed have yielded. -/
def confEnv (l : List (Nat × Value)) (L0 : Array Bool) (e0 : Env) : Nat → Env
  | 0 => e0
  | m + 1 => bif L0.getD m true then confEnv l L0 e0 m else put (confEnv l L0 e0 m) (Vl l m).1 (Vl l m).2
/-- Is the i-th one of those that are to come? -/
def sel (L0 : Array Bool) (m i : Nat) : Bool := Nat.blt i m && !L0.getD i true
def deps (ops : Array Oper) (i : Nat) : List Nat := ((ops[i]?).map (fun o => (o.after.toList.filter (fun e => Region.binds .any e)).map (·.on))).getD []
theorem ready_deps {listed : Array Bool} {i : Nat} : i ∈ Region.ready .any ops listed ↔ listed.getD i true = false ∧ (∃ o, ops[i]? = some o) ∧ ∀ d ∈ deps ops i, listed.getD d false = true := by
  rw [mem_ready]
  unfold deps
  constructor
  · rintro ⟨h1, o, ho, h⟩
    refine ⟨h1, ⟨o, ho⟩, fun d hd => ?_⟩
    rw [ho] at hd
    simp only [Option.map_some, Option.getD_some, List.mem_map, List.mem_filter, Array.mem_toList_iff] at hd
    obtain ⟨e, ⟨he, hb⟩, rfl⟩ := hd
    exact h e he hb
  · rintro ⟨h1, ⟨o, ho⟩, h⟩
    refine ⟨h1, o, ho, fun e he hb => h e.on ?_⟩
    rw [ho]
    simp only [Option.map_some, Option.getD_some, List.mem_map, List.mem_filter, Array.mem_toList_iff]
    exact ⟨e, ⟨he, hb⟩, rfl⟩
/-- What the kernel looks at: each of those to come leans on earlier ones alone, and leads to the m-th; all from the m-th on lean on the m-th. -/
def confOk (ops : Array Oper) (L0 : Array Bool) (m : Nat) (nxt : List Nat) (ds : List Nat) : Bool :=
  Nat.blt m ops.size && Nat.beq L0.size ops.size &&
  (List.range m).all (fun i => !sel L0 m i || ((deps ops i).all (fun d => Nat.blt d i) &&
    (let j := (nxt[i]?).getD 0; Nat.blt i j && Nat.ble j m && (Nat.beq j m || sel L0 m j) && (deps ops j).contains i))) &&
  (List.range ops.size).all (fun j => Nat.blt j m || (!L0.getD j true && (Nat.beq j m || (deps ops j).any (fun d => Nat.ble m d && Nat.blt d ops.size)))) &&
  (List.range m).all (fun i => !sel L0 m i || (List.range m).all (fun j => !sel L0 m j || (Nat.beq i j || !Nat.beq ((ds[i]?).getD 0) ((ds[j]?).getD 0))))
structure Conf (ops : Array Oper) (l : List (Nat × Value)) (L0 : Array Bool) (e0 : Env) (m : Nat) (listed : Array Bool) (e : Env) : Prop where
  size : listed.size = ops.size
  old : ∀ i, L0.getD i true = true → listed.getD i true = true
  tail : ∀ j, m ≤ j → j < ops.size → listed.getD j true = false
  closed : ∀ i, sel L0 m i = true → listed.getD i true = true → ∀ d ∈ deps ops i, listed.getD d false = true
  yes : ∀ i, sel L0 m i = true → listed.getD i true = true → e (Vl l i).1 = (Vl l i).2
  no : ∀ t, (∀ i, sel L0 m i = true → (Vl l i).1 ≠ t) → e t = e0 t
  no2 : ∀ i, sel L0 m i = true → listed.getD i true = false → e (Vl l i).1 = e0 (Vl l i).1
def left (m : Nat) (listed : Array Bool) : Nat := ((List.range m).filter (fun i => !listed.getD i true)).length
theorem left_zero {m : Nat} {listed : Array Bool} (h : left m listed = 0) : ∀ i, i < m → listed.getD i true = true := fun i hi => by
  unfold left at h
  have := List.filter_eq_nil_iff.1 (List.eq_nil_of_length_eq_zero h) i (List.mem_range.2 hi)
  simpa using this
theorem left_set {m : Nat} {listed : Array Bool} {i : Nat} (hi : i < m) (hsz : i < listed.size) (h : listed.getD i true = false) : left m listed = left m (listed.setIfInBounds i true) + 1 := by
  unfold left
  have e : List.range m = List.range i ++ i :: List.range' (i + 1) (m - 1 - i) := by
    rw [List.range_eq_range', List.range_eq_range']
    have h1 : List.range' 0 m = List.range' 0 i ++ List.range' i (m - i) := by
      have := List.range'_append (s := 0) (m := i) (n := m - i) (step := 1)
      rw [Nat.zero_add, Nat.one_mul] at this
      rw [this, show i + (m - i) = m by omega]
    rw [h1, show m - i = (m - 1 - i) + 1 by omega, List.range'_succ]
  have hne : ∀ j, j ≠ i → (listed.setIfInBounds i true).getD j true = listed.getD j true := fun j hj => by
    simp only [Array.getD_eq_getD_getElem?, Array.getElem?_setIfInBounds_ne (Ne.symm hj)]
  have hself : (listed.setIfInBounds i true).getD i true = true := by
    simp [Array.getD_eq_getD_getElem?, hsz]
  rw [e, List.filter_append, List.filter_append, List.filter_cons, List.filter_cons, h, hself]
  have h1 : (List.range i).filter (fun j => !(listed.setIfInBounds i true).getD j true) = (List.range i).filter (fun j => !listed.getD j true) :=
    List.filter_congr fun j hj => by rw [hne j (by have := List.mem_range.1 hj; omega)]
  have h2 : (List.range' (i + 1) (m - 1 - i)).filter (fun j => !(listed.setIfInBounds i true).getD j true) = (List.range' (i + 1) (m - 1 - i)).filter (fun j => !listed.getD j true) :=
    List.filter_congr fun j hj => by rw [hne j (by have := (List.mem_range'_1.1 hj).1; omega)]
  rw [h1, h2]
  simp
  omega
theorem getD_ft {L : Array Bool} {i : Nat} (h : i < L.size) : L.getD i false = L.getD i true := by simp [Array.getD_eq_getD_getElem?, Array.getElem?_eq_getElem h]
theorem oa_conf (l : List (Nat × Value)) (L0 : Array Bool) (e0 : Env) (m tail : Nat) (nxt : List Nat) (ok : confOk ops L0 m nxt (l.map (·.1)) = true) (hlen : l.length = m)
    (step : ∀ (i : Nat) (e : Env) (Φ : Post), sel L0 m i = true → (∀ d ∈ deps ops i, sel L0 m d = true → e (Vl l d).1 = (Vl l d).2) → (∀ t, (∀ i, sel L0 m i = true → (Vl l i).1 ≠ t) → e t = e0 t) →
      (∀ H'', Ent H'' H → Φ .normal (put e (Vl l i).1 (Vl l i).2) H'') → ∃ o, ops[i]? = some o ∧ Ops P n ops [o] e H Φ)
    (fin : ∀ (listed : Array Bool), listed = (List.range m).foldl (fun L i => L.setIfInBounds i true) L0 → OA P n ops tail listed (confEnv l L0 e0 m) H K) :
    ∀ (k : Nat) (listed : Array Bool) (e : Env), left m listed = k → Conf ops l L0 e0 m listed e → OA P n ops (k + tail) listed e H K := by
  simp only [confOk, Bool.and_eq_true] at ok
  obtain ⟨⟨⟨⟨ok1, ok2⟩, ok3⟩, ok4⟩, ok5⟩ := ok
  have hm : m < ops.size := Nat.lt_of_lt_of_le (Nat.le_of_ble_eq_true ok1) (Nat.le_refl _)
  have hL : L0.size = ops.size := Nat.eq_of_beq_eq_true ok2
  have selm : ∀ i, sel L0 m i = true → i < m ∧ L0.getD i true = false := fun i h => by
    unfold sel at h
    rw [Bool.and_eq_true, Bool.not_eq_true'] at h
    exact ⟨Nat.le_of_ble_eq_true h.1, h.2⟩
  have mksel : ∀ i, i < m → L0.getD i true = false → sel L0 m i = true := fun i h1 h2 => by
    unfold sel
    rw [Bool.and_eq_true, Bool.not_eq_true']
    exact ⟨Nat.ble_eq_true_of_le h1, h2⟩
  have c3 : ∀ i, sel L0 m i = true → (∀ d ∈ deps ops i, d < i) ∧ ∃ j, i < j ∧ j ≤ m ∧ (j = m ∨ sel L0 m j = true) ∧ i ∈ deps ops j := fun i h => by
    have := List.all_eq_true.1 ok3 i (List.mem_range.2 (selm i h).1)
    rw [h] at this
    simp only [Bool.not_true, Bool.false_or, Bool.and_eq_true, Bool.or_eq_true] at this
    obtain ⟨h1, ⟨⟨h2, h3⟩, h4⟩, h5⟩ := this
    refine ⟨fun d hd => Nat.le_of_ble_eq_true (List.all_eq_true.1 h1 d hd), _, Nat.le_of_ble_eq_true h2, Nat.le_of_ble_eq_true h3, ?_, by simpa using h5⟩
    rcases h4 with h4 | h4
    · exact .inl (Nat.eq_of_beq_eq_true h4)
    · exact .inr h4
  have c4 : ∀ j, m ≤ j → j < ops.size → L0.getD j true = false ∧ (j = m ∨ ∃ d ∈ deps ops j, m ≤ d ∧ d < ops.size) := fun j h1 h2 => by
    have := List.all_eq_true.1 ok4 j (List.mem_range.2 h2)
    rw [Bool.or_eq_true] at this
    rcases this with h | h
    · exact absurd (Nat.le_of_ble_eq_true h) (by omega)
    · rw [Bool.and_eq_true, Bool.not_eq_true', Bool.or_eq_true] at h
      refine ⟨h.1, ?_⟩
      rcases h.2 with h3 | h3
      · exact .inl (Nat.eq_of_beq_eq_true h3)
      · obtain ⟨d, hd, hh⟩ := List.any_eq_true.1 h3
        rw [Bool.and_eq_true] at hh
        exact .inr ⟨d, hd, Nat.le_of_ble_eq_true hh.1, Nat.le_of_ble_eq_true hh.2⟩
  have inj : ∀ i j, sel L0 m i = true → sel L0 m j = true → (Vl l i).1 = (Vl l j).1 → i = j := fun i j hi hj he => by
    have := List.all_eq_true.1 ok5 i (List.mem_range.2 (selm i hi).1)
    rw [hi] at this
    simp only [Bool.not_true, Bool.false_or] at this
    have := List.all_eq_true.1 this j (List.mem_range.2 (selm j hj).1)
    rw [hj] at this
    simp only [Bool.not_true, Bool.false_or, Bool.or_eq_true, Bool.not_eq_true'] at this
    rcases this with h | h
    · exact Nat.eq_of_beq_eq_true h
    · exfalso
      have hli : i < l.length := by rw [hlen]; exact (selm i hi).1
      have hlj : j < l.length := by rw [hlen]; exact (selm j hj).1
      unfold Vl at he
      rw [List.getElem?_eq_getElem hli, List.getElem?_eq_getElem hlj] at he
      simp only [Option.getD_some] at he
      rw [List.getElem?_map, List.getElem?_map, List.getElem?_eq_getElem hli, List.getElem?_eq_getElem hlj] at h
      simp only [Option.map_some, Option.getD_some] at h
      rw [he] at h
      simp at h
  intro k
  induction k with
  | zero =>
    intro listed e hk hc
    have hall := left_zero hk
    have he : e = confEnv l L0 e0 m := by
      funext t
      have key : ∀ m', m' ≤ m → (∀ i, i < m' → sel L0 m i = true → (Vl l i).1 = t → confEnv l L0 e0 m' t = (Vl l i).2) ∧ ((∀ i, i < m' → sel L0 m i = true → (Vl l i).1 ≠ t) → confEnv l L0 e0 m' t = e0 t) := by
        intro m'
        induction m' with
        | zero => intro _; exact ⟨fun i hi => by omega, fun _ => rfl⟩
        | succ m' ih =>
          intro hm'
          obtain ⟨ih1, ih2⟩ := ih (by omega)
          unfold confEnv
          cases hs : L0.getD m' true with
          | true =>
            rw [cond_true]
            have hns : ¬ sel L0 m m' = true := fun h => by rw [(selm m' h).2] at hs; cases hs
            refine ⟨fun i hi hsi ht => ih1 i ?_ hsi ht, fun hno => ih2 fun i hi => hno i (by omega)⟩
            have : i ≠ m' := fun e => hns (e ▸ hsi)
            omega
          | false =>
            rw [cond_false]
            have hsm := mksel m' (by omega) hs
            by_cases hb : (Vl l m').1 = t
            · have hp : put (confEnv l L0 e0 m') (Vl l m').1 (Vl l m').2 t = (Vl l m').2 := by unfold put; rw [hb]; simp
              refine ⟨fun i hi hsi ht => ?_, fun hno => absurd hb (hno m' (by omega) hsm)⟩
              have : i = m' := inj i m' hsi hsm (ht.trans hb.symm)
              rw [hp, this]
            · have hp : put (confEnv l L0 e0 m') (Vl l m').1 (Vl l m').2 t = confEnv l L0 e0 m' t := by
                unfold put
                have hbe : Nat.beq t (Vl l m').1 = false := by
                  cases h : Nat.beq t (Vl l m').1 with
                  | false => rfl
                  | true => exact absurd (Nat.eq_of_beq_eq_true h).symm hb
                rw [hbe]; rfl
              rw [hp]
              refine ⟨fun i hi hsi ht => ih1 i ?_ hsi ht, fun hno => ih2 fun i hi => hno i (by omega)⟩
              have : i ≠ m' := fun e => hb (e ▸ ht)
              omega
      obtain ⟨k1, k2⟩ := key m (Nat.le_refl _)
      by_cases hex : ∃ i, sel L0 m i = true ∧ (Vl l i).1 = t
      · obtain ⟨i, hi, ht⟩ := hex
        rw [k1 i (selm i hi).1 hi ht, ← ht]
        exact hc.yes i hi (hall i (selm i hi).1)
      · have hno : ∀ i, sel L0 m i = true → (Vl l i).1 ≠ t := fun i hi ht => hex ⟨i, hi, ht⟩
        rw [k2 fun i _ => hno i]
        exact hc.no t hno
    subst he
    rw [Nat.zero_add]
    refine fin listed ?_
    have hfold : ∀ m', m' ≤ m → ((List.range m').foldl (fun L i => L.setIfInBounds i true) L0).size = ops.size ∧ ∀ j, ((List.range m').foldl (fun L i => L.setIfInBounds i true) L0).getD j true = (L0.getD j true || decide (j < m')) := by
      intro m'
      induction m' with
      | zero => intro _; exact ⟨hL, fun j => by simp⟩
      | succ m' ih =>
        intro hm'
        obtain ⟨i1, i2⟩ := ih (by omega)
        rw [List.range_succ, List.foldl_append]
        refine ⟨by simpa using i1, fun j => ?_⟩
        simp only [List.foldl_cons, List.foldl_nil]
        by_cases hj : j = m'
        · subst hj
          have hlt : j < ((List.range j).foldl (fun L i => L.setIfInBounds i true) L0).size := by rw [i1]; omega
          simp [Array.getD_eq_getD_getElem?, hlt]
        · have h1 := i2 j
          simp only [Array.getD_eq_getD_getElem?, Array.getElem?_setIfInBounds_ne (Ne.symm hj)] at h1 ⊢
          rw [h1]
          congr 1
          rw [decide_eq_decide]; omega
    obtain ⟨f1, f2⟩ := hfold m (Nat.le_refl _)
    refine Array.ext (by rw [hc.size, f1]) fun j h1 h2 => ?_
    have e1 : listed.getD j true = listed[j] := by simp [Array.getD_eq_getD_getElem?, Array.getElem?_eq_getElem h1]
    have e2 : ((List.range m).foldl (fun L i => L.setIfInBounds i true) L0).getD j true = ((List.range m).foldl (fun L i => L.setIfInBounds i true) L0)[j] := by simp [Array.getD_eq_getD_getElem?, Array.getElem?_eq_getElem h2]
    rw [← e1, ← e2, f2 j]
    have hjs : j < ops.size := by rw [← hc.size]; exact h1
    by_cases hj : j < m
    · rw [hall j hj, decide_eq_true hj, Bool.or_true]
    · rw [hc.tail j (by omega) hjs, (c4 j (by omega) hjs).1, decide_eq_false hj]; rfl
  | succ k ih =>
    intro listed e hk hc
    rw [Nat.add_right_comm]
    -- one that is to come
    have hex : ∃ i, i < m ∧ listed.getD i true = false ∧ ∀ j, j < i → listed.getD j true = true := by
      have hne : ∃ i, i < m ∧ listed.getD i true = false := by
        refine Classical.byContradiction fun hn => ?_
        have : left m listed = 0 := by
          unfold left
          rw [List.length_eq_zero_iff, List.filter_eq_nil_iff]
          intro i hi
          have := List.mem_range.1 hi
          cases h : listed.getD i true with
          | true => simp
          | false => exact absurd ⟨i, this, h⟩ hn
        omega
      obtain ⟨i, hi, hli⟩ := hne
      have : ∀ b, (∃ i, i < b ∧ i < m ∧ listed.getD i true = false) → ∃ i, i < m ∧ listed.getD i true = false ∧ ∀ j, j < i → listed.getD j true = true := by
        intro b
        induction b with
        | zero => rintro ⟨i, h, _⟩; omega
        | succ b ihb =>
          rintro ⟨i, hib, him, hif⟩
          by_cases hs : ∃ j, j < b ∧ j < m ∧ listed.getD j true = false
          · exact ihb hs
          · refine ⟨i, him, hif, fun j hj => ?_⟩
            cases h : listed.getD j true with
            | true => rfl
            | false => exact absurd ⟨j, by omega, by omega, h⟩ hs
      exact this m ⟨i, hi, hi, hli⟩
    have unsel : ∀ i, i < m → listed.getD i true = false → sel L0 m i = true := fun i h1 h2 => mksel i h1 (by
      cases h : L0.getD i true with
      | false => rfl
      | true => rw [hc.old i h] at h2; cases h2)
    obtain ⟨i0, hi0, hl0, hmin⟩ := hex
    have hops : ∀ i, i < ops.size → ∃ o, ops[i]? = some o := fun i hi => ⟨ops[i], Array.getElem?_eq_getElem hi⟩
    have hready : i0 ∈ Region.ready .any ops listed := ready_deps.2 ⟨hl0, hops i0 (by omega), fun d hd => by
      have := (c3 i0 (unsel i0 hi0 hl0)).1 d hd
      rw [getD_ft (by rw [hc.size]; omega)]
      exact hmin d this⟩
    have hblock : ∀ b i, m - i = b → sel L0 m i = true → listed.getD i true = false → m ∉ Region.ready .any ops listed := by
      intro b
      induction b using Nat.strongRecOn with
      | _ b ihb =>
        intro i hb hsi hli hmr
        obtain ⟨_, j, hij, hjm, hj, hdep⟩ := c3 i hsi
        have hif : listed.getD i false = false := by rw [getD_ft (by rw [hc.size]; have := (selm i hsi).1; omega)]; exact hli
        rcases hj with rfl | hj
        · have := (ready_deps.1 hmr).2.2 i hdep
          rw [hif] at this; cases this
        · have hlj : listed.getD j true = false := by
            cases h : listed.getD j true with
            | false => rfl
            | true => have := hc.closed j hj h i hdep; rw [hif] at this; cases this
          have := (selm j hj).1
          exact ihb (m - j) (by omega) j rfl hj hlj hmr
    have hr : ∀ i ∈ Region.ready .any ops listed, i < m ∧ listed.getD i true = false := fun i hi => by
      obtain ⟨h1, ⟨o, ho⟩, h3⟩ := ready_deps.1 hi
      have his : i < ops.size := (Array.getElem?_eq_some_iff.1 ho).1
      refine ⟨?_, h1⟩
      refine Classical.byContradiction fun hn => ?_
      rcases (c4 i (by omega) his).2 with rfl | ⟨d, hd, hd1, hd2⟩
      · exact hblock _ i0 rfl (unsel i0 hi0 hl0) hl0 hi
      · have := h3 d hd
        rw [getD_ft (by rw [hc.size]; exact hd2), hc.tail d hd1 hd2] at this; cases this
    intro a w0 w F r s
    refine And.intro (fun h0 => by rw [h0] at hready; cases hready) (fun i hi => ?_)
    obtain ⟨him, hil⟩ := hr i hi
    have hsi := unsel i him hil
    obtain ⟨_, _, hdl⟩ := ready_deps.1 hi
    have hisz : i < listed.size := by rw [hc.size]; omega
    have hne2 : ∀ j b, j ≠ i → (listed.setIfInBounds i true).getD j b = listed.getD j b := fun j b hj => by
      simp only [Array.getD_eq_getD_getElem?, Array.getElem?_setIfInBounds_ne (Ne.symm hj)]
    have hself : ∀ b, (listed.setIfInBounds i true).getD i b = true := fun b => by simp [Array.getD_eq_getD_getElem?, hisz]
    have hmono : ∀ j, listed.getD j false = true → (listed.setIfInBounds i true).getD j false = true := fun j h => by
      by_cases hj : j = i
      · rw [hj]; exact hself _
      · rw [hne2 j _ hj]; exact h
    have hnew : Conf ops l L0 e0 m (listed.setIfInBounds i true) (put e (Vl l i).1 (Vl l i).2) := by
      have hput : ∀ t, t ≠ (Vl l i).1 → put e (Vl l i).1 (Vl l i).2 t = e t := fun t ht => by
        unfold put
        have hbe : Nat.beq t (Vl l i).1 = false := by
          cases h : Nat.beq t (Vl l i).1 with
          | false => rfl
          | true => exact absurd (Nat.eq_of_beq_eq_true h) ht
        rw [hbe]; rfl
      have hputs : put e (Vl l i).1 (Vl l i).2 (Vl l i).1 = (Vl l i).2 := by unfold put; simp
      refine ⟨by simpa using hc.size, fun j hj => ?_, fun j h1 h2 => ?_, fun j hsj hlj d hd => ?_, fun j hsj hlj => ?_, fun t ht => ?_, fun j hsj hlj => ?_⟩
      · by_cases h : j = i
        · rw [h]; exact hself _
        · rw [hne2 j _ h]; exact hc.old j hj
      · rw [hne2 j _ (by omega)]; exact hc.tail j h1 h2
      · by_cases h : j = i
        · subst h; exact hmono d (hdl d hd)
        · rw [hne2 j _ h] at hlj
          exact hmono d (hc.closed j hsj hlj d hd)
      · by_cases h : j = i
        · subst h; exact hputs
        · rw [hne2 j _ h] at hlj
          rw [hput _ fun he => h (inj j i hsj hsi he)]
          exact hc.yes j hsj hlj
      · rw [hput t fun he => ht i hsi he.symm]
        exact hc.no t ht
      · have h : j ≠ i := fun h => by rw [h, hself] at hlj; cases hlj
        rw [hne2 j _ h] at hlj
        rw [hput _ fun he => h (inj j i hsj hsi he)]
        exact hc.no2 j hsj hlj
    obtain ⟨o, ho, hop⟩ := step i e (fun x e' H' => x = .normal ∧ OA P n ops (k + tail) (listed.setIfInBounds i true) e' H' K) hsi
      (fun d hd hsd => hc.yes d hsd (by
        have := hdl d hd
        rw [getD_ft (by rw [hc.size]; have := (selm d hsd).1; omega)] at this
        exact this))
      hc.no (fun H'' hent => ⟨rfl, OA.ent (ih _ _ (by have := left_set him hisz hil; omega) hnew) hent⟩)
    exact wp_oneG i r s ho hop
/-- One of those that are to come, by itself. -/
def Stp (P : Program) (n : Nat) (ops : Array Oper) (H : HP) (l : List (Nat × Value)) (ds : List Nat) (L0 : Array Bool) (e0 : Env) (m i : Nat) : Prop :=
  ∀ (e : Env) (Φ : Post), (∀ d, (deps ops i).contains d = true → sel L0 m d = true → e (Vl l d).1 = (Vl l d).2) →
    (∀ t, ((List.range m).all fun i => !sel L0 m i || !Nat.beq ((ds[i]?).getD 0) t) = true → e t = e0 t) →
    (∀ H'', Ent H'' H → Φ .normal (put e (Vl l i).1 (Vl l i).2) H'') → ∃ o, ops[i]? = some o ∧ Ops P n ops [o] e H Φ
theorem oa_confs (l : List (Nat × Value)) (ds : List Nat) (listed : Array Bool) (e : Env) (m k tail fuel : Nat) (nxt S : List Nat) (ok : confOk ops listed m nxt ds = true) (hlen : l.length = m) (hds : l.map (·.1) = ds) (hk : left m listed = k) (hf : fuel = k + tail)
    (hS : ((List.range m).all fun i => !sel listed m i || S.contains i) = true) (step : ∀ i ∈ S, Stp P n ops H l ds listed e m i)
    (fin : OA P n ops tail ((List.range m).foldl (fun L i => L.setIfInBounds i true) listed) (confEnv l listed e m) H K) : OA P n ops fuel listed e H K := by
  subst hf; subst hds
  have ok' := ok
  simp only [confOk, Bool.and_eq_true] at ok'
  obtain ⟨⟨⟨⟨ok1, ok2⟩, ok3⟩, ok4⟩, ok5⟩ := ok'
  have selm : ∀ i, sel listed m i = true → i < m ∧ listed.getD i true = false := fun i h => by
    unfold sel at h
    rw [Bool.and_eq_true, Bool.not_eq_true'] at h
    exact ⟨Nat.le_of_ble_eq_true h.1, h.2⟩
  refine oa_conf l listed e m tail nxt ok hlen (fun i e' Φ hs hd ho kk => ?_) (fun L hL => by subst hL; exact fin) k listed e hk ⟨Nat.eq_of_beq_eq_true ok2, fun i h => h, fun j h1 h2 => ?_, fun i hs hl => ?_, fun i hs hl => ?_, fun t _ => rfl, fun i _ _ => rfl⟩
  · have hmem : i ∈ S := by
      have := List.all_eq_true.1 hS i (List.mem_range.2 (selm i hs).1)
      rw [hs] at this
      simpa using this
    refine step i hmem e' Φ (fun d hd' => hd d (by simpa using hd')) (fun t ht => ho t fun j hsj he => ?_) kk
    have := List.all_eq_true.1 ht j (List.mem_range.2 (selm j hsj).1)
    rw [hsj] at this
    simp only [Bool.not_true, Bool.false_or, Bool.not_eq_true'] at this
    have hlj : j < l.length := by rw [hlen]; exact (selm j hsj).1
    unfold Vl at he
    rw [List.getElem?_eq_getElem hlj] at he
    rw [List.getElem?_map, List.getElem?_eq_getElem hlj] at this
    simp only [Option.getD_some, Option.map_some] at he this
    rw [he] at this
    simp at this
  · have := List.all_eq_true.1 ok4 j (List.mem_range.2 h2)
    rw [Bool.or_eq_true] at this
    rcases this with h | h
    · exact absurd (Nat.le_of_ble_eq_true h) (by omega)
    · rw [Bool.and_eq_true, Bool.not_eq_true'] at h; exact h.1
  · rw [(selm i hs).2] at hl; cases hl
  · rw [(selm i hs).2] at hl; cases hl
end Go.Proofs.YtcelailgedndnaaGreatS
namespace Go.Proofs.YtcelailgedndnaaGreatS
set_option linter.unusedSectionVars false
variable [DR]
open Go.RowKit
set_option linter.unusedVariables false
variable {P : Program} {n : Nat} {ops : Array Oper} {rest : List Oper} {e : Env} {H : HP} {Φ : Post} {d : Nat} {ty : TypeId} {ps : String} {af : Array Edge} {K : Env → HP → Prop} {fuel : Nat} {listed : Array Bool}
theorem o_fieldAddrS {x : Operand} {ad : Addr} {j s i off : Nat} [f : Fld P s i off] (hd : d < n) (hx : ev e x = .pointer (some (ad.add j))) (c : Ops P n ops rest (put e d (.pointer (some (ad.add (j + off))))) H Φ) :
    Ops P n ops (⟨some d, .fieldAddr s x i, ty, ps, af, none⟩ :: rest) e H Φ := o_fieldAddr hd hx (by rw [add_add]; exact c)
theorem oa_fieldS (i : Nat) {x : Operand} {ad : Addr} {k s j off : Nat} [f : Fld P s j off] (hi : ops[i]? = some ⟨some d, .fieldAddr s x j, ty, ps, af, none⟩) (hns : Region.noSelect ops = true) (hfree : Region.free .any ops listed i = true) (hready : (Region.ready .any ops listed).contains i = true) (hd : d < n) (hx : ev e x = .pointer (some (ad.add k)))
    (c : OA P n ops fuel (listed.setIfInBounds i true) (put e d (.pointer (some (ad.add (k + off))))) H K) : OA P n ops (fuel + 1) listed e H K := oa_first i hi hns hfree hready hd (fun w => by simp only [execOp, hx]; simp [f.addr, add_add]) c
theorem oa_indexS (i : Nat) {x y : Operand} {a : Addr} {len cap st el sz bt : Nat} {z : List Value} {k : IntKind} {m : Int} [f : Slc P st el sz bt z] (hi : ops[i]? = some ⟨some d, .indexAddr st x y, ty, ps, af, none⟩) (hns : Region.noSelect ops = true) (hfree : Region.free .any ops listed i = true) (hready : (Region.ready .any ops listed).contains i = true) (hd : d < n)
    (hx : ev e x = .slice (some a) len cap) (hy : ev e y = .int k m) (h0 : 0 ≤ m) (h1 : m < len)
    (c : OA P n ops fuel (listed.setIfInBounds i true) (put e d (.pointer (some (a.add (m.toNat * sz))))) H K) : OA P n ops (fuel + 1) listed e H K := oa_first i hi hns hfree hready hd (fun w => by simp only [execOp, hx, hy]; simp [Instr.indexAt, asIntOf, run_underlying f.und, f.size, h0, h1]) c
end Go.Proofs.YtcelailgedndnaaGreatS
namespace Go.Proofs.YtcelailgedndnaaGreatS
set_option linter.unusedSectionVars false
variable [DR]
open Go.RowKit
set_option linter.unusedVariables false
variable {P : Program} {n : Nat} {ops : Array Oper} {rest : List Oper} {e : Env} {H : HP} {Φ : Post} {d : Nat} {ty : TypeId} {ps : String} {af : Array Edge} {K : Env → HP → Prop} {fuel : Nat} {listed : Array Bool} {j t : Nat} {bw : Bool}
theorem oa_mvY (i : Nat) {x : Operand} {v : Value} (hi : ops[i]? = some ⟨some d, .move x, ty, ps, af, some (j, bw)⟩) (hns : Region.noSelect ops = true) (hfree : Region.free .any ops listed i = true) (hready : (Region.ready .any ops listed).contains i = true) (hd : d < n)
    (hj : (ops[j]?).bind (·.dst) = some t) (hn : t < n) (hb : e t = .bool bw) (hx : ev e x = v)
    (c : OA P n ops fuel (listed.setIfInBounds i true) (put e d v) H K) : OA P n ops (fuel + 1) listed e H K := oa_firstY i hi hns hfree hready hd hj hn hb (fun _ => by simp only [execOp, hx]; rfl) c
theorem oa_lenY (i : Nat) {x : Operand} {a : Option Addr} {len cap st el sz bt : Nat} {z : List Value} {u : Array TypeId} [f : Slc P st el sz bt z] (hi : ops[i]? = some ⟨some d, .call ⟨.builtin .len, #[x], u⟩, ty, ps, af, some (j, bw)⟩) (hns : Region.noSelect ops = true) (hfree : Region.free .any ops listed i = true) (hready : (Region.ready .any ops listed).contains i = true) (hd : d < n)
    (hj : (ops[j]?).bind (·.dst) = some t) (hn : t < n) (hb : e t = .bool bw) (hx : ev e x = .slice a len cap) (hu : u = #[st])
    (c : OA P n ops fuel (listed.setIfInBounds i true) (put e d (.int .i64 (len : Int))) H K) : OA P n ops (fuel + 1) listed e H K := oa_firstY i hi hns hfree hready hd hj hn hb (fun w => by subst hu; simp [execOp, resolve, invoke, builtin, hx, Builtin.len_, run_underlying f.und, goInt]) c
end Go.Proofs.YtcelailgedndnaaGreatS
namespace Go.Proofs.YtcelailgedndnaaGreatS
set_option linter.unusedSectionVars false
variable [DR]
open Go.RowKit
set_option linter.unusedVariables false
variable {P : Program} {n : Nat} {ops : Array Oper} {rest : List Oper} {e : Env} {H A : HP} {Φ : Post} {d : Nat} {ty : TypeId} {ps : String} {af : Array Edge}
/-- One step, beside A. -/
def OStep (P : Program) (ops : Array Oper) (A : HP) (i : Nat) (a : Act) (H : HP) (R : Act → HP → Prop) : Prop :=
  ∀ w0 w F Q, Sat w0 w (A * (H * F)) → wpOp P ops Q i (fun a' w' => ∃ H', Sat w0 w' (A * (H' * F)) ∧ R a' H') a w
def OSa (P : Program) (ops : Array Oper) (A : HP) (K : Act → HP → Prop) : Nat → Array Bool → Act → HP → Prop
  | 0, L, a, H => Region.ready .any ops L = [] ∧ K a H
  | k + 1, L, a, H => Region.ready .any ops L ≠ [] ∧ ∀ i, i ∈ Region.ready .any ops L → OStep P ops A i a H (OSa P ops A K k (L.setIfInBounds i true))
/-- It yields v, and looks at A alone. -/
def LookR (P : Program) (A : HP) (v : Value) (w0 : World) (F : HP) : Result Next → Prop
  | .ok (.value u) w' => u = v ∧ Sat w0 w' (A * F)
  | .ok .skip w' => undef = v ∧ Sat w0 w' (A * F)
  | .ok (.row row args) w' => Rows P row args w' (fun u w'' => u = v ∧ Sat w0 w'' (A * F))
  | .ok (.enter f args) w' => Calls P f args w' (fun e' w'' => e' = .returned v ∧ Sat w0 w'' (A * F))
  | _ => False
def Looks (P : Program) (ops : Array Oper) (A : HP) (o : Oper) (v : Value) (a : Act) : Prop :=
  (Region.wanted o (yielded ops a.tmps) = true ∧ ∀ w0 w F, Sat w0 w (A * F) → LookR P A v w0 F ((execOp a.eval o).run P w)) ∨
  (Region.wanted o (yielded ops a.tmps) = false ∧ ∀ w0 w F, Sat w0 w (A * F) → undef = v)
theorem Looks.of_same {o : Oper} {v : Value} {a a' : Act} (hy : Looks P ops A o v a) (he : execOp a'.eval o = execOp a.eval o)
    (hw : Region.wanted o (yielded ops a'.tmps) = Region.wanted o (yielded ops a.tmps)) : Looks P ops A o v a' := by
  unfold Looks at *
  rw [he, hw]
  exact hy
theorem Looks.wpOp {Q : Exit → Act → World → Prop} {i : Nat} {o : Oper} {v : Value} {a : Act} (hi : ops[i]? = some o) (hy : Looks P ops A o v a)
    {K : Act → World → Prop} {w0 w : World} {F : HP} (s : Sat w0 w (A * F)) (h : ∀ w', Sat w0 w' (A * F) → K (a.put o.dst v) w') : wpOp P ops Q i K a w := by
  unfold Go.wpOp
  simp only [hi]
  rcases hy with ⟨hw, hv⟩ | ⟨hw, hv⟩
  · have := hv w0 w F s
    simp only [hw, if_true, Oper.wp]
    left
    revert this
    generalize (execOp a.eval o).run P w = r
    intro this
    cases r with
    | ok nx w1 =>
      cases nx <;> simp only [LookR] at this <;> simp only [Oper.upon]
      case value u => obtain ⟨rfl, s'⟩ := this; exact h _ s'
      case skip => obtain ⟨rfl, s'⟩ := this; exact h _ s'
      case enter f args => exact Calls.mono this fun e w'' ⟨he, s'⟩ => by subst he; exact h _ s'
      case row row args => exact Rows.mono this fun u w'' ⟨he, s'⟩ => by subst he; exact h _ s'
    | halt hh w1 => simp only [LookR] at this
  · obtain rfl := hv _ _ _ s; simp only [hw, Bool.false_eq_true, if_false]; exact h _ s
theorem wpOp_putL {Q : Exit → Act → World → Prop} {j : Nat} {oi oj : Oper} {v : Value} (hj : ops[j]? = some oj) (hap : oi.apart ops oj = true)
    (hsi : ∀ cs b, oi.op ≠ .select cs b) (hsj : ∀ cs b, oj.op ≠ .select cs b)
    {K : Act → World → Prop} {a : Act} {w : World}
    (hy : Looks P ops A oi v a) (h : wpOp P ops (fun _ _ _ => False) j K (a.put oi.dst v) w) :
    wpOp P ops Q j (fun a' w' => Looks P ops A oi v a' ∧ K (a'.put oi.dst v) w') a w := by
  obtain ⟨h1, h2, h3⟩ := Oper.apart_spec hap
  have keep : ∀ (a : Act), Looks P ops A oi v a → ∀ u, Looks P ops A oi v (a.put oj.dst u) := fun a hy u =>
    hy.of_same (execOp_put oi hsi a oj.dst u h3) (wanted_put oi a oj.dst u h3)
  have keepD : ∀ d, Looks P ops A oi v { a with defers := d :: a.defers } := fun d => hy.of_same rfl rfl
  have nol : ¬ LetsOut (fun (_ : Exit) (_ : Act) (_ : World) => False) := fun ⟨_, _, h⟩ => h
  unfold wpOp at *
  simp only [hj] at *
  rw [wanted_put oj a oi.dst v h1] at h
  split
  · rename_i hw
    simp only [hw, if_true] at h
    rcases h with h | ⟨hasks, hlets⟩
    case inr => exact absurd hlets nol
    refine .inl ?_
    unfold Oper.wp at *
    rw [execOp_put oj hsj a oi.dst v h1] at h
    generalize (execOp a.eval oj).run P w = r at *
    cases r with
    | ok n w' =>
      cases n <;> simp only [Oper.upon] at h ⊢
      case value u => exact ⟨keep a hy u, by rw [← Act.put_comm a v u h2]; exact h⟩
      case skip => exact ⟨keep a hy _, by rw [← Act.put_comm a v undef h2]; exact h⟩
      case defer d =>
        refine ⟨keep _ (keepD d) _, ?_⟩
        rw [← Act.put_comm _ v undef h2, ← Act.put_defers]
        exact h
      case enter f args =>
        refine Calls.mono h fun e w'' he => ?_
        cases e with
        | returned u => exact ⟨keep a hy u, by rw [← Act.put_comm a v u h2]; exact he⟩
        | panicked c => exact he.elim
        | outgrown => exact absurd he nol
      case row row args => exact Rows.mono h fun u w'' he => ⟨keep a hy u, by rw [← Act.put_comm a v u h2]; exact he⟩
    | halt x w' =>
      cases x <;> simp only [Oper.upon] at h
  · rename_i hw
    simp only [hw] at h
    exact ⟨keep a hy _, by rw [← Act.put_comm a v undef h2]; exact h⟩
theorem osa_first {i : Nat} {oi : Oper} {v : Value} {K : Act → HP → Prop} (hi : ops[i]? = some oi) (hsel : ∀ (j : Nat) (o : Oper) cs b, ops[j]? = some o → o.op ≠ .select cs b) :
    ∀ (fuel : Nat) (listed : Array Bool) (a : Act) (H : HP),
      (∀ j oj, ops[j]? = some oj → j ≠ i → listed.getD j true = false → (∀ e ∈ oj.after, Region.binds .any e = true → e.on ≠ i) → oi.apart ops oj = true) →
      i ∈ Region.ready .any ops listed → Looks P ops A oi v a →
      OSa P ops A K fuel (listed.setIfInBounds i true) (a.put oi.dst v) H → OSa P ops A K (fuel + 1) listed a H := by
  intro fuel
  induction fuel with
  | zero =>
    intro listed a G _ hr hy H
    refine ⟨fun h => (by rw [h] at hr; cases hr), fun j hj => ?_⟩
    by_cases hji : j = i
    · subst hji; exact fun w0 w F Q s => hy.wpOp hi s fun w' s' => ⟨G, s', H⟩
    · have := ready_mono hj hji
      rw [H.1] at this
      cases this
  | succ fuel ih =>
    intro listed a G hfree hr hy H
    refine ⟨fun h => (by rw [h] at hr; cases hr), fun j hj => ?_⟩
    by_cases hji : j = i
    · subst hji; exact fun w0 w F Q s => hy.wpOp hi s fun w' s' => ⟨G, s', H⟩
    · have h1 := H.2 j (ready_mono hj hji)
      obtain ⟨hjun, oj, hoj, hall⟩ := mem_ready.1 hj
      have hnot : ∀ e ∈ oj.after, Region.binds .any e = true → e.on ≠ i := fun e he hb heq => by
        have h1 := hall e he hb
        have h0 := (mem_ready.1 hr).1
        rw [heq] at h1
        rcases Nat.lt_or_ge i listed.size with h' | h'
        · simp [h'] at h0 h1; rw [h0] at h1; cases h1
        · simp [Array.getElem?_eq_none h'] at h1
      intro w0 w F Q s
      have h2 := wpOp_putL (Q := Q) hoj (hfree j oj hoj hji hjun hnot) (fun cs b => hsel i oi cs b hi) (fun cs b => hsel j oj cs b hoj) hy (h1 w0 w F _ s)
      have hfree' : ∀ k ok, ops[k]? = some ok → k ≠ i → (listed.setIfInBounds j true).getD k true = false →
          (∀ e ∈ ok.after, Region.binds .any e = true → e.on ≠ i) → oi.apart ops ok = true := fun k ok hk hki hun hno => by
        refine hfree k ok hk hki ?_ hno
        by_cases hjk : j = k
        · subst hjk; exact hjun
        · rw [getD_set_ne true hjk] at hun; exact hun
      refine wpOp_mono (fun a' w' h3 => ?_) h2
      obtain ⟨h4, H', s', h5⟩ := h3
      refine ⟨H', s', ih (listed.setIfInBounds j true) a' H' hfree' (ready_mono hr (Ne.symm hji)) h4 ?_⟩
      rw [Array.setIfInBounds_comm _ _ hji]
      exact h5
theorem osa_any {Q : Exit → Act → World → Prop} {K : Act → HP → Prop} {w0 : World} {F : HP} (hK : ∀ a H w, K a H → Sat w0 w (A * (H * F)) → Q .normal a w) :
    ∀ (k : Nat) (L : Array Bool) (a : Act) (H : HP) (w : World), OSa P ops A K k L a H → Sat w0 w (A * (H * F)) → wpAny P .any ops Q k L a w := by
  intro k
  induction k with
  | zero => exact fun L a H w h s => ⟨h.1, hK _ _ _ h.2 s⟩
  | succ k ih =>
    intro L a H w h s
    exact ⟨fun h0 => absurd h0 h.1, fun i hi => wpOp_mono (fun a' w' ⟨H', s', h'⟩ => ih _ _ _ _ h' s') (h.2 i hi w0 w F Q s)⟩
/-- The region's rest, with memory H, of which A stays as it is. -/
def OS (P : Program) (n : Nat) (ops : Array Oper) (A : HP) (k : Nat) (L : Array Bool) (e : Env) (H : HP) (K : Env → HP → Prop) : Prop :=
  ∀ a, Rep n e a → ∃ R, H = A * R ∧ OSa P ops A (fun a R => ∃ e, Rep n e a ∧ K e (A * R)) k L a R
section
variable {K : Env → HP → Prop} {fuel : Nat} {listed : Array Bool}
theorem oa_os (A : HP) {k : Nat} (h : OS P n ops A k listed e H K) : OA P n ops k listed e H K := fun a w0 w F r s => by
  obtain ⟨R, hR, h1⟩ := h a r
  subst hR
  rw [sep_assoc] at s
  refine osa_any (K := fun a R => ∃ e, Rep n e a ∧ K e (A * R)) (fun a' R' w' hk s' => ?_) k listed a R w h1 s
  obtain ⟨e', r', k'⟩ := hk
  refine ⟨e', _, r', ⟨rfl, k'⟩, ?_⟩
  rw [sep_assoc]; exact s'
theorem os_done {R' : HP} [t : Take A H R'] (hr : Region.ready .any ops listed = []) (h : K e H) : OS P n ops A 0 listed e H K := fun a r => ⟨_, t.eq, hr, e, r, t.eq ▸ h⟩
theorem os_donek {R' : HP} {ts : List Nat} [t : Take A H R'] (hr : Region.ready .any ops listed = []) (h : ∀ g, keepN ts e g (fun e' => Φ .normal e' H)) : OS P n ops A 0 listed e H (fun e' H' => keepP ts Φ .normal e' H') := os_done hr ⟨rfl, h⟩
theorem looks_of {o : Oper} {v : Value} (hdst : o.dst = some d) (hd : d < n) {a : Act} (r : Rep n e a) (h : Ops P n ops [o] e A (fun x e' H' => x = .normal ∧ e' = put e d v ∧ Ent H' A)) : Looks P ops A o v a := by
  have key : ∀ u w0 w' F, (∃ e' H', Rep n e' (a.put o.dst u) ∧ (Exit.normal = .normal ∧ e' = put e d v ∧ Ent H' A) ∧ Sat w0 w' (H' * F)) → u = v ∧ Sat w0 w' (A * F) := by
    rintro u w0 w' F ⟨e', H', r', ⟨_, rfl, hE⟩, s'⟩
    refine ⟨?_, hE _ _ _ s'⟩
    have h1 := r'.val d
    rw [hdst] at h1
    have h2 : (a.put (some d) u).tmps.getD d undef = u := by
      have : d < a.tmps.size := by rw [r.size]; exact hd
      simp [Act.put, this]
    rw [h2] at h1
    rw [h1]
    unfold put; simp
  by_cases hw : Region.wanted o (yielded ops a.tmps) = true
  · refine .inl ⟨hw, fun w0 w F s => ?_⟩
    have h1 := h a w0 w F r s
    unfold wpList at h1
    rw [if_pos hw] at h1
    rcases h1 with h1 | ⟨_, a', w', e', H', _, ⟨hx, _⟩, _⟩
    · unfold Oper.wp at h1
      revert h1
      generalize (execOp a.eval o).run P w = res
      intro h1
      have nope : ∀ c a w, ¬ QQ w0 F n (fun x e' H' => x = .normal ∧ e' = put e d v ∧ Ent H' A) (.panic c) a w := fun c a w ⟨_, _, _, ⟨hx, _⟩, _⟩ => by cases hx
      have nopeo : ¬ LetsOut (QQ w0 F n (fun x e' H' => x = .normal ∧ e' = put e d v ∧ Ent H' A)) := fun ⟨_, _, _, _, _, ⟨hx, _⟩, _⟩ => by cases hx
      cases res with
      | ok nx w1 =>
        cases nx <;> simp only [Oper.upon] at h1 <;> simp only [LookR]
        case value u => exact key u _ _ _ h1
        case skip => exact key undef _ _ _ h1
        case row row args => exact Rows.mono h1 fun u w'' he => key u _ _ _ he
        case enter f args =>
          refine Calls.mono h1 fun e1 w'' he => ?_
          cases e1 with
          | returned u => have := key u _ _ _ he; exact ⟨by rw [this.1], this.2⟩
          | panicked c => exact absurd he (nope _ _ _)
          | outgrown => exact absurd he nopeo
        case defer dd =>
          obtain ⟨e', H', r', _⟩ := h1
          have := r'.defers
          rw [hdst] at this
          simp [Act.put] at this
      | halt hh w1 => cases hh <;> simp only [Oper.upon] at h1 <;> first | exact h1.elim | exact absurd h1 (nope _ _ _)
    · cases hx
  · have hwf : Region.wanted o (yielded ops a.tmps) = false := by simpa using hw
    refine .inr ⟨hwf, fun w0 w F s => ?_⟩
    have h1 := h a w0 w F r s
    unfold wpList at h1
    rw [if_neg hw] at h1
    exact (key undef _ _ _ h1).1
/-- What only looks, at the part that stays, may be taken first. -/
theorem os_pre (i : Nat) {oi : Oper} {v : Value} (hi : ops[i]? = some oi) (hns : Region.noSelect ops = true) (hfree : Region.free .any ops listed i = true) (hready : (Region.ready .any ops listed).contains i = true)
    (hdst : oi.dst = some d) (hd : d < n) (h : Ops P n ops [oi] e A (fun x e' H' => x = .normal ∧ e' = put e d v ∧ Ent H' A)) (c : OS P n ops A fuel (listed.setIfInBounds i true) (put e d v) H K) : OS P n ops A (fuel + 1) listed e H K := fun a r => by
  obtain ⟨R, hR, h1⟩ := c (a.put (some d) v) (r.put hd v)
  exact ⟨R, hR, osa_first hi (Region.noSelect_spec hns) fuel listed a R (Region.free_spec hi hfree) (by simpa using hready) (looks_of hdst hd r h) (by rw [hdst]; exact h1)⟩
theorem os_look {v : Value} (hv : Ent H A) : Ops P n ops [] (put e d v) H (fun x e' H' => x = .normal ∧ e' = put e d v ∧ Ent H' A) := ops_nil ⟨rfl, rfl, hv⟩
theorem ostep {R' : HP} [t : Take A H R'] (j : Nat) {o : Oper} {a : Act} (r : Rep n e a) (hi : ops[j]? = some o)
    (h : Ops P n ops [o] e H (fun x e' H' => x = .normal ∧ OS P n ops A fuel (listed.setIfInBounds j true) e' H' K)) : OStep P ops A j a R' (OSa P ops A (fun a R => ∃ e, Rep n e a ∧ K e (A * R)) fuel (listed.setIfInBounds j true)) := fun w0 w F Q s => by
  have h1 := h a w0 w F r (by rw [t.eq, sep_assoc]; exact s)
  have step : ∀ a w, wpList P ops (QQ w0 F n (fun x e' H' => x = .normal ∧ OS P n ops A fuel (listed.setIfInBounds j true) e' H' K)) [] a w →
      ∃ H', Sat w0 w (A * (H' * F)) ∧ OSa P ops A (fun a R => ∃ e, Rep n e a ∧ K e (A * R)) fuel (listed.setIfInBounds j true) a H' := fun a w ⟨e', H', r', ⟨_, ho⟩, s'⟩ => by
    obtain ⟨R, hR, h2⟩ := ho a r'
    subst hR
    exact ⟨R, by rw [sep_assoc] at s'; exact s', h2⟩
  unfold wpList at h1
  unfold wpOp
  simp only [hi]
  by_cases hw : Region.wanted o (yielded ops a.tmps) = true
  · rw [if_pos hw] at h1 ⊢
    rcases h1 with h1 | ⟨_, a', w', e', H', _, ⟨hx, _⟩, _⟩
    · left
      unfold Oper.wp at h1 ⊢
      revert h1
      generalize (execOp a.eval o).run P w = res
      have nope : ∀ c a w, ¬ QQ w0 F n (fun x e' H' => x = .normal ∧ OS P n ops A fuel (listed.setIfInBounds j true) e' H' K) (.panic c) a w := fun c a w ⟨_, _, _, ⟨hx, _⟩, _⟩ => by cases hx
      have nopeo : ¬ LetsOut (QQ w0 F n (fun x e' H' => x = .normal ∧ OS P n ops A fuel (listed.setIfInBounds j true) e' H' K)) := fun ⟨_, _, _, _, _, ⟨hx, _⟩, _⟩ => by cases hx
      cases res with
      | ok nx w1 =>
        cases nx <;> simp only [Oper.upon] <;> intro h1 <;>
          first
            | exact h1.elim
            | exact step _ _ h1
            | exact Calls.mono h1 (fun e w'' he => by
                cases e with
                | returned v => exact step _ _ he
                | panicked c => exact absurd he (nope _ _ _)
                | outgrown => exact absurd he nopeo)
            | exact Rows.mono h1 (fun _ _ he => step _ _ he)
      | halt hh w1 =>
        cases hh <;> simp only [Oper.upon] <;> intro h1 <;> first | exact h1.elim | exact absurd h1 (nope _ _ _)
    · cases hx
  · rw [if_neg hw] at h1 ⊢
    exact step _ _ h1
theorem os_one {R' : HP} [t : Take A H R'] (i : Nat) {o : Oper} (hr : Region.ready .any ops listed = [i]) (hi : ops[i]? = some o)
    (h : Ops P n ops [o] e H (fun x e' H' => x = .normal ∧ OS P n ops A fuel (listed.setIfInBounds i true) e' H' K)) : OS P n ops A (fuel + 1) listed e H K := fun a r =>
  ⟨R', t.eq, by rw [hr]; simp, fun j hj => by
    rw [hr] at hj
    obtain rfl : j = i := by simpa using hj
    exact ostep j r hi h⟩
theorem os_two {R' : HP} [t : Take A H R'] (i j : Nat) {o q : Oper} (hr : Region.ready .any ops listed = [i, j]) (hi : ops[i]? = some o) (hj : ops[j]? = some q)
    (h : Ops P n ops [o] e H (fun x e' H' => x = .normal ∧ OS P n ops A fuel (listed.setIfInBounds i true) e' H' K))
    (k : Ops P n ops [q] e H (fun x e' H' => x = .normal ∧ OS P n ops A fuel (listed.setIfInBounds j true) e' H' K)) : OS P n ops A (fuel + 1) listed e H K := fun a r =>
  ⟨R', t.eq, by rw [hr]; simp, fun m hm => by
    rw [hr] at hm
    have hm2 : m = i ∨ m = j := by simpa using hm
    rcases hm2 with rfl | rfl
    · exact ostep m r hi h
    · exact ostep m r hj k⟩
theorem os_three {R' : HP} [t : Take A H R'] (i j l : Nat) {o q p : Oper} (hr : Region.ready .any ops listed = [i, j, l]) (hi : ops[i]? = some o) (hj : ops[j]? = some q) (hl : ops[l]? = some p)
    (h : Ops P n ops [o] e H (fun x e' H' => x = .normal ∧ OS P n ops A fuel (listed.setIfInBounds i true) e' H' K))
    (k : Ops P n ops [q] e H (fun x e' H' => x = .normal ∧ OS P n ops A fuel (listed.setIfInBounds j true) e' H' K))
    (g : Ops P n ops [p] e H (fun x e' H' => x = .normal ∧ OS P n ops A fuel (listed.setIfInBounds l true) e' H' K)) : OS P n ops A (fuel + 1) listed e H K := fun a r =>
  ⟨R', t.eq, by rw [hr]; simp, fun m hm => by
    rw [hr] at hm
    have hm2 : m = i ∨ m = j ∨ m = l := by simpa using hm
    rcases hm2 with rfl | rfl | rfl
    · exact ostep m r hi h
    · exact ostep m r hj k
    · exact ostep m r hl g⟩
theorem os_sel {o : Oper} {d : Option Nat} (h : o.dst = d) (k : Ops P n ops [o] e H Φ) : Ops P n ops [o] e H Φ := k
theorem os_nil (h : OS P n ops A fuel listed e H K) : Ops P n ops [] e H (fun x e' H' => x = .normal ∧ OS P n ops A fuel listed e' H' K) := ops_nil ⟨rfl, h⟩
/-- Nothing that is there is changed. -/
theorem os_all {k : Nat} (h : OS P n ops H k listed e H K) : OA P n ops k listed e H K := oa_os H h
/-- All but one block stays. -/
theorem os_but (t : Nat) {b o : Nat} {p : Bool} {l : List Value} {ty : TypeId} {fr : Nat × Nat} {R : HP} {k : Nat} (ht : e t = .pointer (some ⟨b, o, none⟩)) [hb : HasL H b p l ty fr R] (h : OS P n ops R k listed e (cl p b l ty fr * R) K) : OA P n ops k listed e H K := by
  rw [hb.eq]; exact oa_os R h
theorem os_but2 (t t' : Nat) {b o b' o' : Nat} {p p' : Bool} {l l' : List Value} {ty ty' : TypeId} {fr fr' : Nat × Nat} {R R' : HP} {k : Nat} (ht : e t = .pointer (some ⟨b, o, none⟩)) (ht' : e t' = .pointer (some ⟨b', o', none⟩)) [hb : HasL H b p l ty fr R] [hb' : HasL R b' p' l' ty' fr' R']
    (h : OS P n ops R' k listed e (cl p b l ty fr * (cl p' b' l' ty' fr' * R')) K) : OA P n ops k listed e H K := by
  rw [hb.eq, hb'.eq]; exact oa_os R' h
/-- All but an owned row stays. -/
theorem os_butO (t : Nat) {el sz m cap : Nat} {a : Option Addr} {l : List Value} {R : HP} {k : Nat} (ht : e t = .slice a m cap) [hb : HasO H el sz a m cap l R] (h : OS P n ops R k listed e (ow el sz a m cap l * R) K) : OA P n ops k listed e H K :=
  (oa_os R h).ent hb.ent
/-- All but a block and an owned row stays. -/
theorem os_butBO (t : Nat) (el sz : Nat) (a : Option Addr) (m cap : Nat) {b o : Nat} {p : Bool} {l l' : List Value} {ty : TypeId} {fr : Nat × Nat} {R R' : HP} {k : Nat} (ht : e t = .pointer (some ⟨b, o, none⟩)) [hb : HasL H b p l ty fr R] [ho : HasO R el sz a m cap l' R']
    (h : OS P n ops R' k listed e (cl p b l ty fr * (ow el sz a m cap l' * R')) K) : OA P n ops k listed e H K := by
  rw [hb.eq]
  refine OA.ent (H := cl p b l ty fr * (ow el sz a m cap l' * R')) (oa_os R' h) (ho.ent.frameL _)
end
end Go.Proofs.YtcelailgedndnaaGreatS
namespace Go.Proofs.YtcelailgedndnaaGreatS
set_option linter.unusedSectionVars false
variable [DR]
open Go.RowKit
set_option linter.unusedVariables false
variable {P : Program} {n : Nat} {ops : Array Oper} {rest : List Oper} {e : Env} {H A : HP} {Φ : Post} {d : Nat} {ty : TypeId} {ps : String} {af : Array Edge}
variable {K : Env → HP → Prop} {fuel : Nat} {listed : Array Bool} {α : Type} {cells : α → List Value} {sz : Nat} {x y q : Operand} {a : Option Addr} {cap st el bt t : Nat} {z : List Value} {xs : List α} {k2 k3 : IntKind}
theorem os_run (i : Nat) {oi : Oper} {v : Value} (hi : ops[i]? = some oi) (hns : Region.noSelect ops = true) (hfree : Region.free .any ops listed i = true) (hready : (Region.ready .any ops listed).contains i = true)
    (hdst : oi.dst = some d) (hd : d < n) (hg : oi.guard = none) (h : ∀ w, (execOp (ev e) oi).run P w = .ok (.value v) w) (c : OS P n ops A fuel (listed.setIfInBounds i true) (put e d v) H K) : OS P n ops A (fuel + 1) listed e H K := by
  obtain ⟨dst, op, type, pos, after, guard⟩ := oi
  have hdst : dst = some d := hdst
  have hg : guard = none := hg
  subst hdst; subst hg
  exact os_pre i hi hns hfree hready rfl hd (o_rfl hd h (ops_nil ⟨rfl, rfl, Ent.refl _⟩)) c
theorem os_ownT (i : Nat) [f : Slc P st el sz bt z] (hi : ops[i]? = some ⟨some d, .slice st x none (some y) none, ty, ps, af, none⟩) (hns : Region.noSelect ops = true) (hfree : Region.free .any ops listed i = true) (hready : (Region.ready .any ops listed).contains i = true)
    (M : Nat) (hc0 : ∀ x, (cells x).length = sz) (hd : d < n) (hx : ev e x = .slice a xs.length cap) {j : Int} (hy : ev e y = .int k2 j) (hj : j = ((min xs.length M : Nat) : Int)) (hc : xs.length ≤ cap)
    (c : ∀ a', (∀ H' [RdC H' a (xs.flatMap cells)], RdC H' a' ((xs.take M).flatMap cells)) → OS P n ops A fuel (listed.setIfInBounds i true) (put e d (.slice a' (xs.take M).length cap)) H K) : OS P n ops A (fuel + 1) listed e H K := by
  obtain ⟨a', hr, h⟩ := run_ownT (P := P) (f := f) (d := d) (ty := ty) (ps := ps) (af := af) M hc0 hx hy hj hc
  exact os_run i hi hns hfree hready rfl hd rfl h (c a' hr)
theorem os_takeT (i : Nat) [f : Slc P st el sz bt z] (hi : ops[i]? = some ⟨some d, .slice st x none (some y) none, ty, ps, af, none⟩) (hns : Region.noSelect ops = true) (hfree : Region.free .any ops listed i = true) (hready : (Region.ready .any ops listed).contains i = true)
    (hc0 : ∀ x, (cells x).length = sz) (hd : d < n) (hx : ev e x = .slice a xs.length cap) {j : Int} (hy : ev e y = .int k2 j) (hj : j = (t : Int)) (ht : t ≤ xs.length) (hc : xs.length ≤ cap)
    (c : ∀ a', (∀ H' [RdC H' a (xs.flatMap cells)], RdC H' a' ((xs.take t).flatMap cells)) → OS P n ops A fuel (listed.setIfInBounds i true) (put e d (.slice a' (xs.take t).length cap)) H K) : OS P n ops A (fuel + 1) listed e H K := by
  subst hj
  obtain ⟨a', hr, h⟩ := run_takeT (P := P) (f := f) (d := d) (ty := ty) (ps := ps) (af := af) hc0 hx hy ht hc
  exact os_run i hi hns hfree hready rfl hd rfl h (c a' hr)
theorem os_dropT (i : Nat) [f : Slc P st el sz bt z] (hi : ops[i]? = some ⟨some d, .slice st x (some y) none none, ty, ps, af, none⟩) (hns : Region.noSelect ops = true) (hfree : Region.free .any ops listed i = true) (hready : (Region.ready .any ops listed).contains i = true)
    (hc0 : ∀ x, (cells x).length = sz) (hd : d < n) (hx : ev e x = .slice a xs.length cap) {j : Int} (hy : ev e y = .int k2 j) (hj : j = (t : Int)) (ht : t ≤ xs.length) (hc : xs.length ≤ cap)
    (c : ∀ a', (∀ H' [RdC H' a (xs.flatMap cells)], RdC H' a' ((xs.drop t).flatMap cells)) → OS P n ops A fuel (listed.setIfInBounds i true) (put e d (.slice a' (xs.drop t).length (cap - t))) H K) : OS P n ops A (fuel + 1) listed e H K := by
  subst hj
  obtain ⟨a', hr, h⟩ := run_dropT (P := P) (f := f) (d := d) (ty := ty) (ps := ps) (af := af) hc0 hx hy ht hc
  exact os_run i hi hns hfree hready rfl hd rfl h (c a' hr)
/-- All but an owned row, named, stays. -/
theorem os_butR (el sz : Nat) (a : Option Addr) (m cap : Nat) {l : List Value} {R : HP} {k : Nat} [ho : HasO H el sz a m cap l R] (h : OS P n ops R k listed e (ow el sz a m cap l * R) K) : OA P n ops k listed e H K :=
  (oa_os R h).ent ho.ent
end Go.Proofs.YtcelailgedndnaaGreatS
namespace Go.Proofs.YtcelailgedndnaaGreatS
set_option linter.unusedSectionVars false
variable [DR]
open Go.RowKit
set_option linter.unusedVariables false
def cw (k : IntKind) (x : Int) : List Value := [.int k x]
theorem cw_len {k : IntKind} (x : Int) : (cw k x).length = 1 := rfl
theorem cw_one {k : IntKind} (x : Int) : ∀ v ∈ cw k x, v.oneCell' = true := by intro v hv; simp [cw] at hv; subst hv; rfl
theorem cw_ints {k : IntKind} (l : List Int) : l.flatMap (cw k) = ints k l := by
  induction l with
  | nil => rfl
  | cons x t ih => rw [List.flatMap_cons, ih]; rfl
theorem cw_flat {k : IntKind} (l : List Int) : (l.flatMap (cw k)).length = l.length := by rw [flat_len cw_len]; omega
theorem cw_get {k : IntKind} {l : List Int} {i : Nat} (h : i < l.length) : (l.flatMap (cw k))[(i : Int).toNat * 1]? = some (.int k l[i]) := by
  rw [cw_ints, Int.toNat_natCast, Nat.mul_one, ints_get h]
end Go.Proofs.YtcelailgedndnaaGreatS
namespace Go.Proofs.YtcelailgedndnaaGreatS
set_option linter.unusedSectionVars false
variable [DR]
open Go.RowKit
set_option linter.unusedVariables false
variable {P : Program} {n : Nat} {ops : Array Oper} {rest : List Oper} {e : Env} {H : HP} {Φ : Post} {d : Nat} {ty : TypeId} {ps : String} {af : Array Edge}
theorem o_fldS {x : Operand} {cs : List Value} {s i : Nat} {v : Value} {fs : Array Field} {f : Field} (hd : d < n) (hx : ev e x = .agg cs.toArray) (hu : P.underlying s = some (.struct fs)) (hf : fs[i]? = some f)
    (hs : ∀ w, (isAgg f.type).run P w = .ok false w) (hv : cs[f.offset]? = some v) (c : Ops P n ops rest (put e d v) H Φ) : Ops P n ops (⟨some d, .field s x i, ty, ps, af, none⟩ :: rest) e H Φ :=
  o_rfl hd (fun w => by simp only [execOp, hx]; simp [Instr.field, run_underlying hu, hf, asAgg, part, hs, hv]) c
theorem o_fldA {x : Operand} {cs vs : List Value} {s i sz : Nat} {fs : Array Field} {f : Field} (hd : d < n) (hx : ev e x = .agg cs.toArray) (hu : P.underlying s = some (.struct fs)) (hf : fs[i]? = some f)
    (hs : ∀ w, (isAgg f.type).run P w = .ok true w) (hz : ∀ w, (sizeOf f.type).run P w = .ok sz w) (hv : (cs.drop f.offset).take sz = vs) (c : Ops P n ops rest (put e d (.agg vs.toArray)) H Φ) : Ops P n ops (⟨some d, .field s x i, ty, ps, af, none⟩ :: rest) e H Φ :=
  o_rfl hd (fun w => by subst hv; simp only [execOp, hx]; simp [Instr.field, run_underlying hu, hf, asAgg, part, hs, hz]) c
theorem o_idxS {x y : Operand} {cs : List Value} {s len el sz : Nat} {k : IntKind} {i : Int} {v : Value} (hd : d < n) (hx : ev e x = .agg cs.toArray) (hy : ev e y = .int k i) (h0 : 0 ≤ i) (h1 : i < len) (hu : P.underlying s = some (.array len el))
    (hs : ∀ w, (isAgg el).run P w = .ok false w) (hz : ∀ w, (sizeOf el).run P w = .ok sz w) (hv : cs[i.toNat * sz]? = some v) (c : Ops P n ops rest (put e d v) H Φ) : Ops P n ops (⟨some d, .index s x y, ty, ps, af, none⟩ :: rest) e H Φ :=
  o_rfl hd (fun w => by simp only [execOp, hx, hy]; simp [Instr.index, asIntOf, run_underlying hu, h0, h1, part, hs, hz, hv]) c
theorem o_idxA {x y : Operand} {cs vs : List Value} {s len el sz : Nat} {k : IntKind} {i : Int} (hd : d < n) (hx : ev e x = .agg cs.toArray) (hy : ev e y = .int k i) (h0 : 0 ≤ i) (h1 : i < len) (hu : P.underlying s = some (.array len el))
    (hs : ∀ w, (isAgg el).run P w = .ok true w) (hz : ∀ w, (sizeOf el).run P w = .ok sz w) (hv : (cs.drop (i.toNat * sz)).take sz = vs) (c : Ops P n ops rest (put e d (.agg vs.toArray)) H Φ) : Ops P n ops (⟨some d, .index s x y, ty, ps, af, none⟩ :: rest) e H Φ :=
  o_rfl hd (fun w => by subst hv; simp only [execOp, hx, hy]; simp [Instr.index, asIntOf, run_underlying hu, h0, h1, part, hs, hz]) c
end Go.Proofs.YtcelailgedndnaaGreatS
namespace Go.Proofs.YtcelailgedndnaaGreatS
set_option linter.unusedSectionVars false
set_option linter.unusedVariables false
/-- What is handed on, kept away from what is searched for. -/
structure Hd (p : Prop) : Prop where
  go : p
/-- What only reckons, in a region. -/
theorem wO {G G' : Prop} (k : G') (h : Hd G' → G := by
  intro k
  repeat (first
    | (show Ops _ _ _ (⟨_, _, _, _, _, some _⟩ :: _) _ _ _; first | refine g_no rfl (by decide) rfl (by decide) ?_ | refine g_undef rfl rfl (by decide) ?_ | refine g_yes rfl (by decide) rfl ?_ | refine g_noT rfl (by decide) rfl (by assumption) (by decide) ?_ | refine g_noF rfl (by decide) rfl (by assumption) (by decide) ?_ | refine g_yesT rfl (by decide) rfl (by assumption) ?_ | refine g_yesF rfl (by decide) rfl (by assumption) ?_)
    | (show Ops _ _ _ (⟨_, .move _, _, _, _, none⟩ :: _) _ _ _; first | refine o_mv (v := .int _ _) (by decide) rfl ?_ | refine o_mv (v := .bool _) (by decide) rfl ?_ | refine o_mv (v := .pointer _) (by decide) rfl ?_ | refine o_mv (v := .slice _ _ _) (by decide) rfl ?_ | refine o_mv (v := .agg (List.toArray _)) (by decide) rfl ?_ | refine o_mv (by decide) rfl ?_)
    | (show Ops _ _ _ (⟨_, .fieldAddr _ _ _, _, _, _, none⟩ :: _) _ _ _; first | refine o_fieldAddr' (by decide) rfl ?_ | refine o_fieldAddrS (by decide) rfl ?_)
    | (show Ops _ _ _ (⟨_, .load _ _, _, _, _, none⟩ :: _) _ _ _; first | refine o_load_s (v := .int _ _) (by decide) rfl rfl ?_ | refine o_load_s (v := .bool _) (by decide) rfl rfl ?_ | refine o_load_s (v := .pointer _) (by decide) rfl rfl ?_ | refine o_load_s (v := .slice _ _ _) (by decide) rfl rfl ?_ | refine o_load_s (by decide) rfl rfl ?_ | refine o_load_a (by decide) rfl rfl ?_ | refine o_load_r (by decide) rfl (by assumption) ?_ | refine o_load_r (v := .int _ _) (by decide) rfl rfl ?_ | refine o_load_r (v := .bool _) (by decide) rfl rfl ?_ | refine o_load_r (v := .pointer _) (by decide) rfl rfl ?_ | refine o_load_r (v := .slice _ _ _) (by decide) rfl rfl ?_ | refine o_load_ra (by decide) rfl (by assumption) ?_ | refine o_load_ra (by decide) rfl rfl ?_)
    | (show Ops _ _ _ (⟨_, .binOp _ _ _ _ _, _, _, _, none⟩ :: _) _ _ _; first | refine o_int (by decide) rfl rfl rfl ?_ | refine o_quo (by decide) rfl rfl (by first | decide | assumption | omega) ?_ | refine o_rem (by decide) rfl rfl (by first | decide | assumption | omega) ?_ | refine o_shl (by decide) rfl rfl (by first | decide | assumption | omega) ?_ | refine o_shr (by decide) rfl rfl (by first | decide | assumption | omega) ?_ | refine o_eqPN (by decide) rfl (by kernel_rfl) ?_)
    | (show Ops _ _ _ (⟨_, .assign _, _, _, _, none⟩ :: _) _ _ _; first | refine o_as (v := .int _ _) (by decide) rfl ?_ | refine o_as (v := .bool _) (by decide) rfl ?_ | refine o_as (v := .pointer _) (by decide) rfl ?_ | refine o_as (v := .slice _ _ _) (by decide) rfl ?_ | refine o_as (v := .agg (List.toArray _)) (by decide) rfl ?_ | refine o_as (by decide) rfl ?_)
    | (show Ops _ _ _ (⟨_, .nilCheck _, _, _, _, none⟩ :: _) _ _ _; first | refine o_nil (by decide) rfl ?_ | refine o_nil_func (by decide) rfl ?_)
    | (show Ops _ _ _ (⟨_, .pick _ _ _, _, _, _, none⟩ :: _) _ _ _; first | refine o_pick_t (v := .int _ _) (by decide) rfl rfl ?_ | refine o_pick_f (v := .int _ _) (by decide) rfl rfl ?_ | refine o_pick_t (v := .bool _) (by decide) rfl rfl ?_ | refine o_pick_f (v := .bool _) (by decide) rfl rfl ?_ | refine o_pick_t (v := .pointer _) (by decide) rfl rfl ?_ | refine o_pick_f (v := .pointer _) (by decide) rfl rfl ?_ | refine o_pick_t (v := .slice _ _ _) (by decide) rfl rfl ?_ | refine o_pick_f (v := .slice _ _ _) (by decide) rfl rfl ?_ | refine o_pick_t (v := .agg (List.toArray _)) (by decide) rfl rfl ?_ | refine o_pick_f (v := .agg (List.toArray _)) (by decide) rfl rfl ?_ | refine o_pick_t (v := _) (by decide) rfl rfl ?_ | refine o_pick_f (v := _) (by decide) rfl rfl ?_)
    | (show Ops _ _ _ (⟨_, .store _ _ _, _, _, _, none⟩ :: _) _ _ _; first | refine o_store_s (v := .int _ _) rfl rfl rfl rfl ?_ | refine o_store_s (v := .bool _) rfl rfl rfl rfl ?_ | refine o_store_s (v := .pointer _) rfl rfl rfl rfl ?_ | refine o_store_s (v := .slice _ _ _) rfl rfl rfl rfl ?_ | refine o_store_s rfl rfl rfl rfl ?_ | refine o_store_a rfl rfl rfl rfl rfl ?_ | refine o_store_oa rfl rfl rfl (Nat.succ_pos _) rfl (by assumption) ?_ | refine o_store_os (v := .int _ _) rfl rfl rfl (by assumption) ?_ | refine o_store_os (v := .bool _) rfl rfl rfl (by assumption) ?_ | refine o_store_os (v := .pointer _) rfl rfl rfl (by assumption) ?_ | refine o_store_os (v := .slice _ _ _) rfl rfl rfl (by assumption) ?_ | refine o_store_os (v := _) rfl rfl rfl (by assumption) ?_)
    | (show Ops _ _ _ (⟨_, .call _, _, _, _, none⟩ :: _) _ _ _; first | refine o_len (by decide) rfl rfl ?_ | refine o_min2 (by decide) rfl rfl ?_ | refine o_max2 (by decide) rfl rfl ?_)
    | (show Ops _ _ _ (⟨_, .indexAddr _ _ _, _, _, _, none⟩ :: _) _ _ _; first | refine o_index (by decide) rfl rfl (by first | decide | assumption | omega) (by first | decide | assumption | omega) ?_ | refine o_indexA (by decide) rfl rfl (by first | decide | assumption | omega) (by first | decide | assumption | omega) ?_)
    | (show Ops _ _ _ (⟨_, .build _ _, _, _, _, none⟩ :: _) _ _ _; first | refine o_build (by decide) rfl ?_)
    | (show Ops _ _ _ (⟨_, .extract _ _, _, _, _, none⟩ :: _) _ _ _; first | refine o_extract (v := .int _ _) (by decide) rfl rfl ?_ | refine o_extract (v := .bool _) (by decide) rfl rfl ?_ | refine o_extract (v := .pointer _) (by decide) rfl rfl ?_ | refine o_extract (v := .slice _ _ _) (by decide) rfl rfl ?_ | refine o_extract (v := .agg (List.toArray _)) (by decide) rfl rfl ?_ | refine o_extract (v := _) (by decide) rfl rfl ?_)
    | (show Ops _ _ _ (⟨_, .unOp _ _ _, _, _, _, none⟩ :: _) _ _ _; first | refine o_not (by decide) rfl ?_ | refine o_neg (by decide) rfl ?_ | refine o_cpl (by decide) rfl ?_)
    | (show Ops _ _ _ (⟨_, .convert _ _ _, _, _, _, none⟩ :: _) _ _ _; first | refine o_conv (by decide) rfl ?_)
    )
  exact k.go) : G := h ⟨k⟩
/-- What only reckons, to the region's end, and what is kept. -/
theorem wK {G G' : Prop} (k : G') (h : Hd G' → G := by
  intro k
  refine wO ?_
  refine ops_nilk ?_
  intro g
  repeat (first
    | refine keep_cons (v := .int _ _) rfl ?_ | refine keep_cons (v := .pointer _) rfl ?_ | refine keep_cons (v := .bool _) rfl ?_ | refine keep_cons (v := .slice _ _ _) rfl ?_ | refine keep_cons (v := .agg (List.toArray _)) rfl ?_ | refine keep_cons (v := _) rfl ?_)
  refine keep_nil ?_
  revert g
  exact k.go) : G := h ⟨k⟩
/-- The same where the order is drawn. -/
theorem wQ {G G' : Prop} (k : G') (h : Hd G' → G := by
  intro k
  repeat (first
    | (show QO _ _ _ (⟨_, _, _, _, _, some _⟩ :: _) _ _ _; first | refine qg_no rfl (by decide) rfl (by decide) ?_ | refine qg_undef rfl rfl (by decide) ?_ | refine qg_yes rfl (by decide) rfl ?_ | refine qg_noT rfl (by decide) rfl (by assumption) (by decide) ?_ | refine qg_noF rfl (by decide) rfl (by assumption) (by decide) ?_ | refine qg_yesT rfl (by decide) rfl (by assumption) ?_ | refine qg_yesF rfl (by decide) rfl (by assumption) ?_)
    | (show QO _ _ _ (⟨_, .move _, _, _, _, none⟩ :: _) _ _ _; first | refine q_mv (v := .int _ _) (by decide) rfl ?_ | refine q_mv (v := .bool _) (by decide) rfl ?_ | refine q_mv (v := .pointer _) (by decide) rfl ?_ | refine q_mv (v := .slice _ _ _) (by decide) rfl ?_ | refine q_mv (v := .agg (List.toArray _)) (by decide) rfl ?_ | refine q_mv (by decide) rfl ?_)
    | (show QO _ _ _ (⟨_, .fieldAddr _ _ _, _, _, _, none⟩ :: _) _ _ _; first | refine q_fieldAddr' (by decide) rfl ?_)
    | (show QO _ _ _ (⟨_, .load _ _, _, _, _, none⟩ :: _) _ _ _; first | refine q_load_s (v := .int _ _) (by decide) rfl rfl ?_ | refine q_load_s (v := .bool _) (by decide) rfl rfl ?_ | refine q_load_s (v := .pointer _) (by decide) rfl rfl ?_ | refine q_load_s (v := .slice _ _ _) (by decide) rfl rfl ?_ | refine q_load_s (by decide) rfl rfl ?_ | refine q_load_a (by decide) rfl rfl ?_ | refine q_load_r (by decide) rfl (by assumption) ?_ | refine q_load_r (v := .int _ _) (by decide) rfl rfl ?_ | refine q_load_r (v := .bool _) (by decide) rfl rfl ?_ | refine q_load_r (v := .pointer _) (by decide) rfl rfl ?_ | refine q_load_r (v := .slice _ _ _) (by decide) rfl rfl ?_ | refine q_load_ra (by decide) rfl (by assumption) ?_ | refine q_load_ra (by decide) rfl rfl ?_)
    | (show QO _ _ _ (⟨_, .binOp _ _ _ _ _, _, _, _, none⟩ :: _) _ _ _; first | refine q_int (by decide) rfl rfl rfl ?_ | refine q_quo (by decide) rfl rfl (by first | decide | assumption | omega) ?_ | refine q_rem (by decide) rfl rfl (by first | decide | assumption | omega) ?_ | refine q_shl (by decide) rfl rfl (by first | decide | assumption | omega) ?_ | refine q_shr (by decide) rfl rfl (by first | decide | assumption | omega) ?_)
    | (show QO _ _ _ (⟨_, .assign _, _, _, _, none⟩ :: _) _ _ _; first | refine q_as (v := .int _ _) (by decide) rfl ?_ | refine q_as (v := .bool _) (by decide) rfl ?_ | refine q_as (v := .pointer _) (by decide) rfl ?_ | refine q_as (v := .slice _ _ _) (by decide) rfl ?_ | refine q_as (v := .agg (List.toArray _)) (by decide) rfl ?_ | refine q_as (by decide) rfl ?_)
    | (show QO _ _ _ (⟨_, .nilCheck _, _, _, _, none⟩ :: _) _ _ _; first | refine q_nilc (by decide) rfl ?_ | refine q_nilf (by decide) rfl ?_)
    | (show QO _ _ _ (⟨_, .pick _ _ _, _, _, _, none⟩ :: _) _ _ _; first | refine q_pick_t (v := .int _ _) (by decide) rfl rfl ?_ | refine q_pick_f (v := .int _ _) (by decide) rfl rfl ?_ | refine q_pick_t (v := .bool _) (by decide) rfl rfl ?_ | refine q_pick_f (v := .bool _) (by decide) rfl rfl ?_ | refine q_pick_t (v := .pointer _) (by decide) rfl rfl ?_ | refine q_pick_f (v := .pointer _) (by decide) rfl rfl ?_ | refine q_pick_t (v := .slice _ _ _) (by decide) rfl rfl ?_ | refine q_pick_f (v := .slice _ _ _) (by decide) rfl rfl ?_ | refine q_pick_t (v := .agg (List.toArray _)) (by decide) rfl rfl ?_ | refine q_pick_f (v := .agg (List.toArray _)) (by decide) rfl rfl ?_ | refine q_pick_t (v := _) (by decide) rfl rfl ?_ | refine q_pick_f (v := _) (by decide) rfl rfl ?_)
    | (show QO _ _ _ (⟨_, .call _, _, _, _, none⟩ :: _) _ _ _; first | refine q_len (by decide) rfl rfl ?_ | refine q_min2 (by decide) rfl rfl ?_ | refine q_max2 (by decide) rfl rfl ?_)
    | (show QO _ _ _ (⟨_, .indexAddr _ _ _, _, _, _, none⟩ :: _) _ _ _; first | refine q_index (by decide) rfl rfl (by first | decide | assumption | omega) (by first | decide | assumption | omega) ?_ | refine q_indexA (by decide) rfl rfl (by first | decide | assumption | omega) (by first | decide | assumption | omega) ?_)
    | (show QO _ _ _ (⟨_, .extract _ _, _, _, _, none⟩ :: _) _ _ _; first | refine q_extract (v := .int _ _) (by decide) rfl rfl ?_ | refine q_extract (v := .bool _) (by decide) rfl rfl ?_ | refine q_extract (v := .pointer _) (by decide) rfl rfl ?_ | refine q_extract (v := .slice _ _ _) (by decide) rfl rfl ?_ | refine q_extract (v := .agg (List.toArray _)) (by decide) rfl rfl ?_ | refine q_extract (v := _) (by decide) rfl rfl ?_)
    | (show QO _ _ _ (⟨_, .unOp _ _ _, _, _, _, none⟩ :: _) _ _ _; first | refine q_not (by decide) rfl ?_ | refine q_neg (by decide) rfl ?_ | refine q_cpl (by decide) rfl ?_)
    | (show QO _ _ _ (⟨_, .convert _ _ _, _, _, _, none⟩ :: _) _ _ _; first | refine q_conv (by decide) rfl ?_)
    )
  exact k.go) : G := h ⟨k⟩
theorem wJ {G G' : Prop} (k : G') (h : Hd G' → G := by
  intro k
  refine wQ ?_
  refine q_nilk ?_
  intro g
  repeat (first
    | refine keep_cons (v := .int _ _) rfl ?_ | refine keep_cons (v := .pointer _) rfl ?_ | refine keep_cons (v := .bool _) rfl ?_ | refine keep_cons (v := .slice _ _ _) rfl ?_ | refine keep_cons (v := .agg (List.toArray _)) rfl ?_ | refine keep_cons (v := _) rfl ?_)
  refine keep_nil ?_
  revert g
  exact k.go) : G := h ⟨k⟩
/-- Between regions. -/
theorem wC {G G' : Prop} (k : G') (h : Hd G' → G := by
  intro k
  first | refine ex_seq ?_ | refine ex_block ?_ | refine ex_ret ?_ | refine ex_skip ?_ | refine ex_exit ?_ | refine ex_cond_t rfl ?_ | refine ex_cond_f rfl ?_ | refine ex_cond_t (congrArg Value.bool (by assumption)) ?_ | refine ex_cond_f (congrArg Value.bool (by assumption)) ?_ | fail
  repeat (first | refine ex_seq ?_ | refine ex_block ?_ | refine ex_ret ?_ | refine ex_skip ?_ | refine ex_exit ?_ | refine ex_cond_t rfl ?_ | refine ex_cond_f rfl ?_ | refine ex_cond_t (congrArg Value.bool (by assumption)) ?_ | refine ex_cond_f (congrArg Value.bool (by assumption)) ?_)
  exact k.go) : G := h ⟨k⟩
section
variable {P : Program} {n : Nat} {ops : Array Oper} {rest : List Oper} {e : Env} {H A : HP} {Φ : Post} {d : Nat} {ty : TypeId} {ps : String} {af : Array Edge} {K : Env → HP → Prop} {fuel : Nat} {listed : Array Bool} {x y : Operand} [DR]
theorem rG (id : Nat) (ts : List Nat) {l : List Oper} (h : Ops P n l.toArray l e H (keepP ts Φ)) : Ex P n (.region id l.toArray false) e H Φ := ex_regk h
theorem rQ (id : Nat) (ts : List Nat) {l : List Oper} [m : Mixed P] (h : QO P n l.toArray l e H (fun e' => keepP ts Φ .normal e' H)) (hB : Region.lexB .any l.toArray = true := by kernel_rfl) : Ex P n (.region id l.toArray true) e H Φ := ex_quietk hB h
theorem rA (id : Nat) (ts : List Nat) (k : Nat) {l : List Oper} [m : Mixed P] (h : OA P n l.toArray k (Array.replicate k false) e H (fun e' H' => keepP ts Φ .normal e' H')) (hk : l.length = k := by exact rfl) : Ex P n (.region id l.toArray true) e H Φ := ex_anyk hk h
/-- What only looks, taken first. -/
theorem lQ (i : Nat) {oi : Oper} {v : Value} (c : OS P n ops A fuel (listed.setIfInBounds i true) (put e d v) H K) (hi : ops[i]? = some oi := by exact rfl) (hns : Region.noSelect ops = true := by kernel_rfl) (hfree : Region.free .any ops listed i = true := by kernel_rfl) (hready : (Region.ready .any ops listed).contains i = true := by kernel_rfl)
    (hdst : oi.dst = some d := by exact rfl) (hd : d < n := by decide) (h : Ops P n ops [oi] e A (fun x e' H' => x = .normal ∧ e' = put e d v ∧ Ent H' A) := by
      refine wO ?_
      refine os_look ?_
      first | exact Ent.refl _ | exact ent_take) : OS P n ops A (fuel + 1) listed e H K := os_pre i hi hns hfree hready hdst hd h c
/-- The same with a call. -/
theorem lC (i : Nat) {oi : Oper} {v : Value} (h : Ops P n ops [oi] e A (fun x e' H' => x = .normal ∧ e' = put e d v ∧ Ent H' A)) (c : OS P n ops A fuel (listed.setIfInBounds i true) (put e d v) H K) (hi : ops[i]? = some oi := by exact rfl) (hns : Region.noSelect ops = true := by kernel_rfl) (hfree : Region.free .any ops listed i = true := by kernel_rfl) (hready : (Region.ready .any ops listed).contains i = true := by kernel_rfl)
    (hdst : oi.dst = some d := by exact rfl) (hd : d < n := by decide) : OS P n ops A (fuel + 1) listed e H K := os_pre i hi hns hfree hready hdst hd h c
theorem lL {G : Prop} (h : G := by refine os_look ?_; first | exact Ent.refl _ | exact ent_take) : G := h
theorem aM (i : Nat) {v : Value} (c : OA P n ops fuel (listed.setIfInBounds i true) (put e d v) H K) (hi : ops[i]? = some ⟨some d, .move x, ty, ps, af, none⟩ := by exact rfl) (hns : Region.noSelect ops = true := by kernel_rfl) (hfree : Region.free .any ops listed i = true := by kernel_rfl) (hready : (Region.ready .any ops listed).contains i = true := by kernel_rfl) (hd : d < n := by decide) (hx : ev e x = v := by exact rfl) : OA P n ops (fuel + 1) listed e H K := oa_mv i hi hns hfree hready hd hx c
theorem aA (i : Nat) {x : Operand} {v : Value} (c : OA P n ops fuel (listed.setIfInBounds i true) (put e d v) H K) (hi : ops[i]? = some ⟨some d, .assign x, ty, ps, af, none⟩ := by exact rfl) (hns : Region.noSelect ops = true := by kernel_rfl) (hfree : Region.free .any ops listed i = true := by kernel_rfl) (hready : (Region.ready .any ops listed).contains i = true := by kernel_rfl) (hd : d < n := by decide) (hx : ev e x = v := by exact rfl) : OA P n ops (fuel + 1) listed e H K := oa_as i hi hns hfree hready hd hx c
theorem aX (i : Nat) {x : Operand} {l : List Value} {j : Nat} {v : Value} (c : OA P n ops fuel (listed.setIfInBounds i true) (put e d v) H K) (hi : ops[i]? = some ⟨some d, .extract x j, ty, ps, af, none⟩ := by exact rfl) (hns : Region.noSelect ops = true := by kernel_rfl) (hfree : Region.free .any ops listed i = true := by kernel_rfl) (hready : (Region.ready .any ops listed).contains i = true := by kernel_rfl) (hd : d < n := by decide) (hx : ev e x = .tuple l.toArray := by exact rfl) (hj : l[j]? = some v := by exact rfl) : OA P n ops (fuel + 1) listed e H K := oa_ex i hi hns hfree hready hd hx hj c
theorem aI (i : Nat) {x y : Operand} {op : BinOp} {k : IntKind} {a b : Int} {v : Value} {t u : TypeId} (c : OA P n ops fuel (listed.setIfInBounds i true) (put e d v) H K) (hi : ops[i]? = some ⟨some d, .binOp op t x y u, ty, ps, af, none⟩ := by exact rfl) (hns : Region.noSelect ops = true := by kernel_rfl) (hfree : Region.free .any ops listed i = true := by kernel_rfl) (hready : (Region.ready .any ops listed).contains i = true := by kernel_rfl) (hd : d < n := by decide) (hx : ev e x = .int k a := by exact rfl) (hy : ev e y = .int k b := by exact rfl) (hv : io op k a b = some v := by exact rfl) : OA P n ops (fuel + 1) listed e H K := oa_int i hi hns hfree hready hd hx hy hv c
theorem aN (i : Nat) {a : Addr} (c : OA P n ops fuel (listed.setIfInBounds i true) (put e d (.pointer (some a))) H K) (hi : ops[i]? = some ⟨some d, .nilCheck x, ty, ps, af, none⟩ := by exact rfl) (hns : Region.noSelect ops = true := by kernel_rfl) (hfree : Region.free .any ops listed i = true := by kernel_rfl) (hready : (Region.ready .any ops listed).contains i = true := by kernel_rfl) (hd : d < n := by decide) (hx : ev e x = .pointer (some a) := by exact rfl) : OA P n ops (fuel + 1) listed e H K := oa_nilc i hi hns hfree hready hd hx c
theorem aF (i : Nat) {b o s j off : Nat} [f : Fld P s j off] (c : OA P n ops fuel (listed.setIfInBounds i true) (put e d (.pointer (some ⟨b, o + off, none⟩))) H K) (hi : ops[i]? = some ⟨some d, .fieldAddr s x j, ty, ps, af, none⟩ := by exact rfl) (hns : Region.noSelect ops = true := by kernel_rfl) (hfree : Region.free .any ops listed i = true := by kernel_rfl) (hready : (Region.ready .any ops listed).contains i = true := by kernel_rfl) (hd : d < n := by decide) (hx : ev e x = .pointer (some ⟨b, o, none⟩) := by exact rfl) : OA P n ops (fuel + 1) listed e H K := oa_field i hi hns hfree hready hd hx c
theorem aFS (i : Nat) {x : Operand} {ad : Addr} {k s j off : Nat} [f : Fld P s j off] (c : OA P n ops fuel (listed.setIfInBounds i true) (put e d (.pointer (some (ad.add (k + off))))) H K) (hi : ops[i]? = some ⟨some d, .fieldAddr s x j, ty, ps, af, none⟩ := by exact rfl) (hns : Region.noSelect ops = true := by kernel_rfl) (hfree : Region.free .any ops listed i = true := by kernel_rfl) (hready : (Region.ready .any ops listed).contains i = true := by kernel_rfl) (hd : d < n := by decide) (hx : ev e x = .pointer (some (ad.add k)) := by exact rfl) : OA P n ops (fuel + 1) listed e H K := oa_fieldS i hi hns hfree hready hd hx c
theorem aJS (i : Nat) {x y : Operand} {a : Addr} {len cap st el sz bt : Nat} {z : List Value} {k : IntKind} {m : Int} [f : Slc P st el sz bt z] (c : OA P n ops fuel (listed.setIfInBounds i true) (put e d (.pointer (some (a.add (m.toNat * sz))))) H K) (hi : ops[i]? = some ⟨some d, .indexAddr st x y, ty, ps, af, none⟩ := by exact rfl) (hns : Region.noSelect ops = true := by kernel_rfl) (hfree : Region.free .any ops listed i = true := by kernel_rfl) (hready : (Region.ready .any ops listed).contains i = true := by kernel_rfl) (hd : d < n := by decide) (hx : ev e x = .slice (some a) len cap := by exact rfl) (hy : ev e y = .int k m := by exact rfl) (h0 : 0 ≤ m := by first | decide | assumption | omega) (h1 : m < len := by first | decide | assumption | omega) : OA P n ops (fuel + 1) listed e H K := oa_indexS i hi hns hfree hready hd hx hy h0 h1 c
theorem aJ (i : Nat) {b o : Nat} {len el sz at_ : Nat} {k : IntKind} {m : Int} [f : Arr P at_ len el sz] (c : OA P n ops fuel (listed.setIfInBounds i true) (put e d (.pointer (some ⟨b, o + m.toNat * sz, none⟩))) H K) (hi : ops[i]? = some ⟨some d, .indexAddr at_ x y, ty, ps, af, none⟩ := by exact rfl) (hns : Region.noSelect ops = true := by kernel_rfl) (hfree : Region.free .any ops listed i = true := by kernel_rfl) (hready : (Region.ready .any ops listed).contains i = true := by kernel_rfl) (hd : d < n := by decide) (hx : ev e x = .pointer (some ⟨b, o, none⟩) := by exact rfl) (hy : ev e y = .int k m := by exact rfl) (h0 : 0 ≤ m := by first | decide | assumption | omega) (h1 : m < len := by first | decide | assumption | omega) : OA P n ops (fuel + 1) listed e H K := oa_indexA i hi hns hfree hready hd hx hy h0 h1 c
theorem aL (i : Nat) {x : Operand} {a : Option Addr} {len cap st el sz bt : Nat} {z : List Value} {u : Array TypeId} [f : Slc P st el sz bt z] (c : OA P n ops fuel (listed.setIfInBounds i true) (put e d (.int .i64 (len : Int))) H K) (hi : ops[i]? = some ⟨some d, .call ⟨.builtin .len, #[x], u⟩, ty, ps, af, none⟩ := by exact rfl) (hns : Region.noSelect ops = true := by kernel_rfl) (hfree : Region.free .any ops listed i = true := by kernel_rfl) (hready : (Region.ready .any ops listed).contains i = true := by kernel_rfl) (hd : d < n := by decide) (hx : ev e x = .slice a len cap := by exact rfl) (hu : u = #[st] := by exact rfl) : OA P n ops (fuel + 1) listed e H K := oa_len i hi hns hfree hready hd hx hu c
theorem aO (i : Nat) {o : Oper} (h : Ops P n ops [o] e H (fun x e' H' => x = .normal ∧ OA P n ops fuel (listed.setIfInBounds i true) e' H' K)) (hr : Region.ready .any ops listed = [i] := by kernel_rfl) (hi : ops[i]? = some o := by exact rfl) (hg : o.guard = none := by exact rfl) : OA P n ops (fuel + 1) listed e H K := oa_one i hr hi hg h
theorem aG (i : Nat) {o : Oper} (h : Ops P n ops [o] e H (fun x e' H' => x = .normal ∧ OA P n ops fuel (listed.setIfInBounds i true) e' H' K)) (hr : Region.ready .any ops listed = [i] := by kernel_rfl) (hi : ops[i]? = some o := by exact rfl) : OA P n ops (fuel + 1) listed e H K := oa_oneG i hr hi h
theorem oN {R' : HP} [t : Take A H R'] (i : Nat) {o : Oper} (h : Ops P n ops [o] e H (fun x e' H' => x = .normal ∧ OS P n ops A fuel (listed.setIfInBounds i true) e' H' K)) (hr : Region.ready .any ops listed = [i] := by kernel_rfl) (hi : ops[i]? = some o := by exact rfl) : OS P n ops A (fuel + 1) listed e H K := os_one i hr hi h
end
/-- A drawn region's end, and what is kept. -/
theorem dK {G G' : Prop} (k : G') (h : Hd G' → G := by
  intro k
  first | refine os_donek (by kernel_rfl) ?_ | refine oa_donek (by kernel_rfl) ?_
  intro g
  repeat (first
    | refine keep_cons (v := .int _ _) rfl ?_ | refine keep_cons (v := .pointer _) rfl ?_ | refine keep_cons (v := .bool _) rfl ?_ | refine keep_cons (v := .slice _ _ _) rfl ?_ | refine keep_cons (v := .agg (List.toArray _)) rfl ?_ | refine keep_cons (v := _) rfl ?_)
  refine keep_nil ?_
  revert g
  exact k.go) : G := h ⟨k⟩
end Go.Proofs.YtcelailgedndnaaGreatS
namespace Go.Proofs.YtcelailgedndnaaGreatS
set_option maxRecDepth 100000
instance : Sc Tryz.prog 1 (.nilFunc) := ⟨fun w => by kernel_rfl, fun w => by kernel_rfl, fun w => by kernel_rfl, rfl⟩
instance : Sc Tryz.prog 2 (.int .i64 (0)) := ⟨fun w => by kernel_rfl, fun w => by kernel_rfl, fun w => by kernel_rfl, rfl⟩
instance : IntT Tryz.prog 2 .i64 := ⟨by kernel_rfl⟩
instance : Sc Tryz.prog 3 (.int .i64 (0)) := ⟨fun w => by kernel_rfl, fun w => by kernel_rfl, fun w => by kernel_rfl, rfl⟩
instance : IntT Tryz.prog 3 .i64 := ⟨by kernel_rfl⟩
instance : Sc Tryz.prog 4 (.bool false) := ⟨fun w => by kernel_rfl, fun w => by kernel_rfl, fun w => by kernel_rfl, rfl⟩
instance : Sc Tryz.prog 5 (.int .u8 (0)) := ⟨fun w => by kernel_rfl, fun w => by kernel_rfl, fun w => by kernel_rfl, rfl⟩
instance : IntT Tryz.prog 5 .u8 := ⟨by kernel_rfl⟩
instance : Sc Tryz.prog 12 (.int .u64 (0)) := ⟨fun w => by kernel_rfl, fun w => by kernel_rfl, fun w => by kernel_rfl, rfl⟩
instance : IntT Tryz.prog 12 .u64 := ⟨by kernel_rfl⟩
instance : Ag Tryz.prog 13 2 [.string ByteArray.empty, .int .u64 (0)] := ⟨fun w => by kernel_rfl, fun w => by kernel_rfl, fun w => by kernel_rfl⟩
instance : Fld Tryz.prog 13 0 0 := ⟨fun a w => by kernel_rfl⟩
instance : Fld Tryz.prog 13 1 1 := ⟨fun a w => by kernel_rfl⟩
instance : Lay Tryz.prog 13 [(0, 1), (1, 1)] [.string ByteArray.empty, .int .u64 (0)] := ⟨fun w => by kernel_rfl, _, Tryz.underlying13, fun w => by kernel_rfl⟩
instance : Ag Tryz.prog 19 1 [.pointer none] := ⟨fun w => by kernel_rfl, fun w => by kernel_rfl, fun w => by kernel_rfl⟩
instance : Fld Tryz.prog 19 0 0 := ⟨fun a w => by kernel_rfl⟩
instance : Lay Tryz.prog 19 [(0, 1)] [.pointer none] := ⟨fun w => by kernel_rfl, _, Tryz.underlying19, fun w => by kernel_rfl⟩
instance : Sc Tryz.prog 20 (.nilIface) := ⟨fun w => by kernel_rfl, fun w => by kernel_rfl, fun w => by kernel_rfl, rfl⟩
instance : Sc Tryz.prog 21 (.int .i32 (0)) := ⟨fun w => by kernel_rfl, fun w => by kernel_rfl, fun w => by kernel_rfl, rfl⟩
instance : IntT Tryz.prog 21 .i32 := ⟨by kernel_rfl⟩
instance : Sc Tryz.prog 22 (.slice none 0 0) := ⟨fun w => by kernel_rfl, fun w => by kernel_rfl, fun w => by kernel_rfl, rfl⟩
instance : Slc Tryz.prog 22 141 5 40 [.int .i64 (0), .int .i64 (0), .int .i64 (0), .int .i64 (0), .int .i64 (0)] := ⟨by kernel_rfl, fun w => by kernel_rfl, by kernel_rfl, rfl, by decide⟩
instance : Ag Tryz.prog 23 4 [.int .i64 (0), .int .i64 (0), .int .i64 (0), .slice none 0 0] := ⟨fun w => by kernel_rfl, fun w => by kernel_rfl, fun w => by kernel_rfl⟩
instance : Fld Tryz.prog 23 0 0 := ⟨fun a w => by kernel_rfl⟩
instance : Fld Tryz.prog 23 1 1 := ⟨fun a w => by kernel_rfl⟩
instance : Fld Tryz.prog 23 2 2 := ⟨fun a w => by kernel_rfl⟩
instance : Fld Tryz.prog 23 3 3 := ⟨fun a w => by kernel_rfl⟩
instance : Lay Tryz.prog 23 [(0, 1), (1, 1), (2, 1), (3, 1)] [.int .i64 (0), .int .i64 (0), .int .i64 (0), .slice none 0 0] := ⟨fun w => by kernel_rfl, _, Tryz.underlying23, fun w => by kernel_rfl⟩
instance : Ag Tryz.prog 24 4 [.int .i64 (0), .int .i64 (0), .int .i64 (0), .slice none 0 0] := ⟨fun w => by kernel_rfl, fun w => by kernel_rfl, fun w => by kernel_rfl⟩
instance : Fld Tryz.prog 24 0 0 := ⟨fun a w => by kernel_rfl⟩
instance : Fld Tryz.prog 24 1 1 := ⟨fun a w => by kernel_rfl⟩
instance : Fld Tryz.prog 24 2 2 := ⟨fun a w => by kernel_rfl⟩
instance : Fld Tryz.prog 24 3 3 := ⟨fun a w => by kernel_rfl⟩
instance : Lay Tryz.prog 24 [(0, 1), (1, 1), (2, 1), (3, 1)] [.int .i64 (0), .int .i64 (0), .int .i64 (0), .slice none 0 0] := ⟨fun w => by kernel_rfl, _, Tryz.underlying24, fun w => by kernel_rfl⟩
instance : Sc Tryz.prog 25 (.slice none 0 0) := ⟨fun w => by kernel_rfl, fun w => by kernel_rfl, fun w => by kernel_rfl, rfl⟩
instance : Slc Tryz.prog 25 74 5 40 [.int .u64 (0), .int .u64 (0), .int .i64 (0), .int .i64 (0), .int .i64 (0)] := ⟨by kernel_rfl, fun w => by kernel_rfl, by kernel_rfl, rfl, by decide⟩
instance : Ag Tryz.prog 26 4 [.int .i64 (0), .int .i64 (0), .int .i64 (0), .slice none 0 0] := ⟨fun w => by kernel_rfl, fun w => by kernel_rfl, fun w => by kernel_rfl⟩
instance : Fld Tryz.prog 26 0 0 := ⟨fun a w => by kernel_rfl⟩
instance : Fld Tryz.prog 26 1 1 := ⟨fun a w => by kernel_rfl⟩
instance : Fld Tryz.prog 26 2 2 := ⟨fun a w => by kernel_rfl⟩
instance : Fld Tryz.prog 26 3 3 := ⟨fun a w => by kernel_rfl⟩
instance : Lay Tryz.prog 26 [(0, 1), (1, 1), (2, 1), (3, 1)] [.int .i64 (0), .int .i64 (0), .int .i64 (0), .slice none 0 0] := ⟨fun w => by kernel_rfl, _, Tryz.underlying26, fun w => by kernel_rfl⟩
instance : Ag Tryz.prog 27 4 [.int .i64 (0), .int .i64 (0), .int .i64 (0), .slice none 0 0] := ⟨fun w => by kernel_rfl, fun w => by kernel_rfl, fun w => by kernel_rfl⟩
instance : Fld Tryz.prog 27 0 0 := ⟨fun a w => by kernel_rfl⟩
instance : Fld Tryz.prog 27 1 1 := ⟨fun a w => by kernel_rfl⟩
instance : Fld Tryz.prog 27 2 2 := ⟨fun a w => by kernel_rfl⟩
instance : Fld Tryz.prog 27 3 3 := ⟨fun a w => by kernel_rfl⟩
instance : Lay Tryz.prog 27 [(0, 1), (1, 1), (2, 1), (3, 1)] [.int .i64 (0), .int .i64 (0), .int .i64 (0), .slice none 0 0] := ⟨fun w => by kernel_rfl, _, Tryz.underlying27, fun w => by kernel_rfl⟩
instance : Sc Tryz.prog 28 (.nilFunc) := ⟨fun w => by kernel_rfl, fun w => by kernel_rfl, fun w => by kernel_rfl, rfl⟩
instance : Sc Tryz.prog 29 (.pointer none) := ⟨fun w => by kernel_rfl, fun w => by kernel_rfl, fun w => by kernel_rfl, rfl⟩
instance : Sc Tryz.prog 30 (.nilFunc) := ⟨fun w => by kernel_rfl, fun w => by kernel_rfl, fun w => by kernel_rfl, rfl⟩
instance : Sc Tryz.prog 31 (.slice none 0 0) := ⟨fun w => by kernel_rfl, fun w => by kernel_rfl, fun w => by kernel_rfl, rfl⟩
instance : Slc Tryz.prog 31 159 2 16 [.int .i64 (0), .int .i64 (0)] := ⟨by kernel_rfl, fun w => by kernel_rfl, by kernel_rfl, rfl, by decide⟩
instance : Ag Tryz.prog 32 6 [.slice none 0 0, .int .i64 (0), .int .i64 (0), .int .i64 (0), .int .i64 (0), .int .i64 (0)] := ⟨fun w => by kernel_rfl, fun w => by kernel_rfl, fun w => by kernel_rfl⟩
instance : Fld Tryz.prog 32 0 0 := ⟨fun a w => by kernel_rfl⟩
instance : Fld Tryz.prog 32 1 1 := ⟨fun a w => by kernel_rfl⟩
instance : Fld Tryz.prog 32 2 2 := ⟨fun a w => by kernel_rfl⟩
instance : Fld Tryz.prog 32 3 3 := ⟨fun a w => by kernel_rfl⟩
instance : Fld Tryz.prog 32 4 4 := ⟨fun a w => by kernel_rfl⟩
instance : Fld Tryz.prog 32 5 5 := ⟨fun a w => by kernel_rfl⟩
instance : Lay Tryz.prog 32 [(0, 1), (1, 1), (2, 1), (3, 1), (4, 1), (5, 1)] [.slice none 0 0, .int .i64 (0), .int .i64 (0), .int .i64 (0), .int .i64 (0), .int .i64 (0)] := ⟨fun w => by kernel_rfl, _, Tryz.underlying32, fun w => by kernel_rfl⟩
instance : Ag Tryz.prog 33 6 [.slice none 0 0, .int .i64 (0), .int .i64 (0), .int .i64 (0), .int .i64 (0), .int .i64 (0)] := ⟨fun w => by kernel_rfl, fun w => by kernel_rfl, fun w => by kernel_rfl⟩
instance : Fld Tryz.prog 33 0 0 := ⟨fun a w => by kernel_rfl⟩
instance : Fld Tryz.prog 33 1 1 := ⟨fun a w => by kernel_rfl⟩
instance : Fld Tryz.prog 33 2 2 := ⟨fun a w => by kernel_rfl⟩
instance : Fld Tryz.prog 33 3 3 := ⟨fun a w => by kernel_rfl⟩
instance : Fld Tryz.prog 33 4 4 := ⟨fun a w => by kernel_rfl⟩
instance : Fld Tryz.prog 33 5 5 := ⟨fun a w => by kernel_rfl⟩
instance : Lay Tryz.prog 33 [(0, 1), (1, 1), (2, 1), (3, 1), (4, 1), (5, 1)] [.slice none 0 0, .int .i64 (0), .int .i64 (0), .int .i64 (0), .int .i64 (0), .int .i64 (0)] := ⟨fun w => by kernel_rfl, _, Tryz.underlying33, fun w => by kernel_rfl⟩
instance : Sc Tryz.prog 34 (.nilFunc) := ⟨fun w => by kernel_rfl, fun w => by kernel_rfl, fun w => by kernel_rfl, rfl⟩
instance : Sc Tryz.prog 35 (.int .u64 (0)) := ⟨fun w => by kernel_rfl, fun w => by kernel_rfl, fun w => by kernel_rfl, rfl⟩
instance : IntT Tryz.prog 35 .u64 := ⟨by kernel_rfl⟩
instance : Ag Tryz.prog 36 4 [.int .i64 (0), .int .i64 (0), .int .i64 (0), .int .u64 (0)] := ⟨fun w => by kernel_rfl, fun w => by kernel_rfl, fun w => by kernel_rfl⟩
instance : Fld Tryz.prog 36 0 0 := ⟨fun a w => by kernel_rfl⟩
instance : Fld Tryz.prog 36 1 1 := ⟨fun a w => by kernel_rfl⟩
instance : Fld Tryz.prog 36 2 2 := ⟨fun a w => by kernel_rfl⟩
instance : Fld Tryz.prog 36 3 3 := ⟨fun a w => by kernel_rfl⟩
instance : Lay Tryz.prog 36 [(0, 1), (1, 1), (2, 1), (3, 1)] [.int .i64 (0), .int .i64 (0), .int .i64 (0), .int .u64 (0)] := ⟨fun w => by kernel_rfl, _, Tryz.underlying36, fun w => by kernel_rfl⟩
instance : Ag Tryz.prog 37 4 [.int .i64 (0), .int .i64 (0), .int .i64 (0), .int .u64 (0)] := ⟨fun w => by kernel_rfl, fun w => by kernel_rfl, fun w => by kernel_rfl⟩
instance : Fld Tryz.prog 37 0 0 := ⟨fun a w => by kernel_rfl⟩
instance : Fld Tryz.prog 37 1 1 := ⟨fun a w => by kernel_rfl⟩
instance : Fld Tryz.prog 37 2 2 := ⟨fun a w => by kernel_rfl⟩
instance : Fld Tryz.prog 37 3 3 := ⟨fun a w => by kernel_rfl⟩
instance : Lay Tryz.prog 37 [(0, 1), (1, 1), (2, 1), (3, 1)] [.int .i64 (0), .int .i64 (0), .int .i64 (0), .int .u64 (0)] := ⟨fun w => by kernel_rfl, _, Tryz.underlying37, fun w => by kernel_rfl⟩
instance : Ag Tryz.prog 38 5 [.bool false, .int .i64 (0), .int .i64 (0), .int .i64 (0), .int .u64 (0)] := ⟨fun w => by kernel_rfl, fun w => by kernel_rfl, fun w => by kernel_rfl⟩
instance : Fld Tryz.prog 38 0 0 := ⟨fun a w => by kernel_rfl⟩
instance : Fld Tryz.prog 38 1 1 := ⟨fun a w => by kernel_rfl⟩
instance : Lay Tryz.prog 38 [(0, 1), (1, 4)] [.bool false, .int .i64 (0), .int .i64 (0), .int .i64 (0), .int .u64 (0)] := ⟨fun w => by kernel_rfl, _, Tryz.underlying38, fun w => by kernel_rfl⟩
instance : Ag Tryz.prog 39 5 [.bool false, .int .i64 (0), .int .i64 (0), .int .i64 (0), .int .u64 (0)] := ⟨fun w => by kernel_rfl, fun w => by kernel_rfl, fun w => by kernel_rfl⟩
instance : Fld Tryz.prog 39 0 0 := ⟨fun a w => by kernel_rfl⟩
instance : Fld Tryz.prog 39 1 1 := ⟨fun a w => by kernel_rfl⟩
instance : Lay Tryz.prog 39 [(0, 1), (1, 4)] [.bool false, .int .i64 (0), .int .i64 (0), .int .i64 (0), .int .u64 (0)] := ⟨fun w => by kernel_rfl, _, Tryz.underlying39, fun w => by kernel_rfl⟩
instance : Ag Tryz.prog 40 15 [.int .i64 (0), .int .i64 (0), .int .i64 (0), .int .i64 (0), .slice none 0 0, .int .i64 (0), .int .i64 (0), .int .i64 (0), .int .i64 (0), .int .i64 (0), .bool false, .int .i64 (0), .int .i64 (0), .int .i64 (0), .int .u64 (0)] := ⟨fun w => by kernel_rfl, fun w => by kernel_rfl, fun w => by kernel_rfl⟩
instance : Fld Tryz.prog 40 0 0 := ⟨fun a w => by kernel_rfl⟩
instance : Fld Tryz.prog 40 1 1 := ⟨fun a w => by kernel_rfl⟩
instance : Fld Tryz.prog 40 2 2 := ⟨fun a w => by kernel_rfl⟩
instance : Fld Tryz.prog 40 3 3 := ⟨fun a w => by kernel_rfl⟩
instance : Fld Tryz.prog 40 4 4 := ⟨fun a w => by kernel_rfl⟩
instance : Fld Tryz.prog 40 5 10 := ⟨fun a w => by kernel_rfl⟩
instance : Lay Tryz.prog 40 [(0, 1), (1, 1), (2, 1), (3, 1), (4, 6), (10, 5)] [.int .i64 (0), .int .i64 (0), .int .i64 (0), .int .i64 (0), .slice none 0 0, .int .i64 (0), .int .i64 (0), .int .i64 (0), .int .i64 (0), .int .i64 (0), .bool false, .int .i64 (0), .int .i64 (0), .int .i64 (0), .int .u64 (0)] := ⟨fun w => by kernel_rfl, _, Tryz.underlying40, fun w => by kernel_rfl⟩
instance : Ag Tryz.prog 41 15 [.int .i64 (0), .int .i64 (0), .int .i64 (0), .int .i64 (0), .slice none 0 0, .int .i64 (0), .int .i64 (0), .int .i64 (0), .int .i64 (0), .int .i64 (0), .bool false, .int .i64 (0), .int .i64 (0), .int .i64 (0), .int .u64 (0)] := ⟨fun w => by kernel_rfl, fun w => by kernel_rfl, fun w => by kernel_rfl⟩
instance : Fld Tryz.prog 41 0 0 := ⟨fun a w => by kernel_rfl⟩
instance : Fld Tryz.prog 41 1 1 := ⟨fun a w => by kernel_rfl⟩
instance : Fld Tryz.prog 41 2 2 := ⟨fun a w => by kernel_rfl⟩
instance : Fld Tryz.prog 41 3 3 := ⟨fun a w => by kernel_rfl⟩
instance : Fld Tryz.prog 41 4 4 := ⟨fun a w => by kernel_rfl⟩
instance : Fld Tryz.prog 41 5 10 := ⟨fun a w => by kernel_rfl⟩
instance : Lay Tryz.prog 41 [(0, 1), (1, 1), (2, 1), (3, 1), (4, 6), (10, 5)] [.int .i64 (0), .int .i64 (0), .int .i64 (0), .int .i64 (0), .slice none 0 0, .int .i64 (0), .int .i64 (0), .int .i64 (0), .int .i64 (0), .int .i64 (0), .bool false, .int .i64 (0), .int .i64 (0), .int .i64 (0), .int .u64 (0)] := ⟨fun w => by kernel_rfl, _, Tryz.underlying41, fun w => by kernel_rfl⟩
instance : Sc Tryz.prog 42 (.slice none 0 0) := ⟨fun w => by kernel_rfl, fun w => by kernel_rfl, fun w => by kernel_rfl, rfl⟩
instance : Slc Tryz.prog 42 41 15 136 [.int .i64 (0), .int .i64 (0), .int .i64 (0), .int .i64 (0), .slice none 0 0, .int .i64 (0), .int .i64 (0), .int .i64 (0), .int .i64 (0), .int .i64 (0), .bool false, .int .i64 (0), .int .i64 (0), .int .i64 (0), .int .u64 (0)] := ⟨by kernel_rfl, fun w => by kernel_rfl, by kernel_rfl, rfl, by decide⟩
instance : Sc Tryz.prog 43 (.slice none 0 0) := ⟨fun w => by kernel_rfl, fun w => by kernel_rfl, fun w => by kernel_rfl, rfl⟩
instance : Slc Tryz.prog 43 49 3 56 [.int .i64 (0), .slice none 0 0, .slice none 0 0] := ⟨by kernel_rfl, fun w => by kernel_rfl, by kernel_rfl, rfl, by decide⟩
instance : Sc Tryz.prog 44 (.nilFunc) := ⟨fun w => by kernel_rfl, fun w => by kernel_rfl, fun w => by kernel_rfl, rfl⟩
instance : Sc Tryz.prog 45 (.int .i64 (0)) := ⟨fun w => by kernel_rfl, fun w => by kernel_rfl, fun w => by kernel_rfl, rfl⟩
instance : IntT Tryz.prog 45 .i64 := ⟨by kernel_rfl⟩
instance : Sc Tryz.prog 46 (.slice none 0 0) := ⟨fun w => by kernel_rfl, fun w => by kernel_rfl, fun w => by kernel_rfl, rfl⟩
instance : Slc Tryz.prog 46 67 5 40 [.int .i64 (0), .int .i64 (0), .int .i64 (0), .int .i64 (0), .int .u64 (0)] := ⟨by kernel_rfl, fun w => by kernel_rfl, by kernel_rfl, rfl, by decide⟩
instance : Sc Tryz.prog 47 (.slice none 0 0) := ⟨fun w => by kernel_rfl, fun w => by kernel_rfl, fun w => by kernel_rfl, rfl⟩
instance : Slc Tryz.prog 47 79 4 32 [.int .i64 (0), .int .i64 (0), .int .i64 (0), .bool false] := ⟨by kernel_rfl, fun w => by kernel_rfl, by kernel_rfl, rfl, by decide⟩
instance : Ag Tryz.prog 48 3 [.int .i64 (0), .slice none 0 0, .slice none 0 0] := ⟨fun w => by kernel_rfl, fun w => by kernel_rfl, fun w => by kernel_rfl⟩
instance : Fld Tryz.prog 48 0 0 := ⟨fun a w => by kernel_rfl⟩
instance : Fld Tryz.prog 48 1 1 := ⟨fun a w => by kernel_rfl⟩
instance : Fld Tryz.prog 48 2 2 := ⟨fun a w => by kernel_rfl⟩
instance : Lay Tryz.prog 48 [(0, 1), (1, 1), (2, 1)] [.int .i64 (0), .slice none 0 0, .slice none 0 0] := ⟨fun w => by kernel_rfl, _, Tryz.underlying48, fun w => by kernel_rfl⟩
instance : Ag Tryz.prog 49 3 [.int .i64 (0), .slice none 0 0, .slice none 0 0] := ⟨fun w => by kernel_rfl, fun w => by kernel_rfl, fun w => by kernel_rfl⟩
instance : Fld Tryz.prog 49 0 0 := ⟨fun a w => by kernel_rfl⟩
instance : Fld Tryz.prog 49 1 1 := ⟨fun a w => by kernel_rfl⟩
instance : Fld Tryz.prog 49 2 2 := ⟨fun a w => by kernel_rfl⟩
instance : Lay Tryz.prog 49 [(0, 1), (1, 1), (2, 1)] [.int .i64 (0), .slice none 0 0, .slice none 0 0] := ⟨fun w => by kernel_rfl, _, Tryz.underlying49, fun w => by kernel_rfl⟩
instance : Sc Tryz.prog 50 (.nilFunc) := ⟨fun w => by kernel_rfl, fun w => by kernel_rfl, fun w => by kernel_rfl, rfl⟩
instance : Sc Tryz.prog 51 (.pointer none) := ⟨fun w => by kernel_rfl, fun w => by kernel_rfl, fun w => by kernel_rfl, rfl⟩
instance : Sc Tryz.prog 52 (.nilFunc) := ⟨fun w => by kernel_rfl, fun w => by kernel_rfl, fun w => by kernel_rfl, rfl⟩
instance : Ag Tryz.prog 53 3 [.int .i64 (0), .int .i64 (0), .int .i64 (0)] := ⟨fun w => by kernel_rfl, fun w => by kernel_rfl, fun w => by kernel_rfl⟩
instance : Fld Tryz.prog 53 0 0 := ⟨fun a w => by kernel_rfl⟩
instance : Fld Tryz.prog 53 1 1 := ⟨fun a w => by kernel_rfl⟩
instance : Fld Tryz.prog 53 2 2 := ⟨fun a w => by kernel_rfl⟩
instance : Lay Tryz.prog 53 [(0, 1), (1, 1), (2, 1)] [.int .i64 (0), .int .i64 (0), .int .i64 (0)] := ⟨fun w => by kernel_rfl, _, Tryz.underlying53, fun w => by kernel_rfl⟩
instance : Ag Tryz.prog 54 3 [.int .i64 (0), .int .i64 (0), .int .i64 (0)] := ⟨fun w => by kernel_rfl, fun w => by kernel_rfl, fun w => by kernel_rfl⟩
instance : Fld Tryz.prog 54 0 0 := ⟨fun a w => by kernel_rfl⟩
instance : Fld Tryz.prog 54 1 1 := ⟨fun a w => by kernel_rfl⟩
instance : Fld Tryz.prog 54 2 2 := ⟨fun a w => by kernel_rfl⟩
instance : Lay Tryz.prog 54 [(0, 1), (1, 1), (2, 1)] [.int .i64 (0), .int .i64 (0), .int .i64 (0)] := ⟨fun w => by kernel_rfl, _, Tryz.underlying54, fun w => by kernel_rfl⟩
instance : Sc Tryz.prog 55 (.slice none 0 0) := ⟨fun w => by kernel_rfl, fun w => by kernel_rfl, fun w => by kernel_rfl, rfl⟩
instance : Slc Tryz.prog 55 39 5 40 [.bool false, .int .i64 (0), .int .i64 (0), .int .i64 (0), .int .u64 (0)] := ⟨by kernel_rfl, fun w => by kernel_rfl, by kernel_rfl, rfl, by decide⟩
instance : Ag Tryz.prog 56 1 [.slice none 0 0] := ⟨fun w => by kernel_rfl, fun w => by kernel_rfl, fun w => by kernel_rfl⟩
instance : Fld Tryz.prog 56 0 0 := ⟨fun a w => by kernel_rfl⟩
instance : Lay Tryz.prog 56 [(0, 1)] [.slice none 0 0] := ⟨fun w => by kernel_rfl, _, Tryz.underlying56, fun w => by kernel_rfl⟩
instance : Ag Tryz.prog 57 1 [.slice none 0 0] := ⟨fun w => by kernel_rfl, fun w => by kernel_rfl, fun w => by kernel_rfl⟩
instance : Fld Tryz.prog 57 0 0 := ⟨fun a w => by kernel_rfl⟩
instance : Lay Tryz.prog 57 [(0, 1)] [.slice none 0 0] := ⟨fun w => by kernel_rfl, _, Tryz.underlying57, fun w => by kernel_rfl⟩
instance : Sc Tryz.prog 58 (.pointer none) := ⟨fun w => by kernel_rfl, fun w => by kernel_rfl, fun w => by kernel_rfl, rfl⟩
instance : Ag Tryz.prog 59 8 [.int .i64 (0), .int .i64 (0), .int .i64 (0), .slice none 0 0, .pointer none, .int .i64 (0), .slice none 0 0, .slice none 0 0] := ⟨fun w => by kernel_rfl, fun w => by kernel_rfl, fun w => by kernel_rfl⟩
instance : Fld Tryz.prog 59 0 0 := ⟨fun a w => by kernel_rfl⟩
instance : Fld Tryz.prog 59 1 3 := ⟨fun a w => by kernel_rfl⟩
instance : Fld Tryz.prog 59 2 4 := ⟨fun a w => by kernel_rfl⟩
instance : Fld Tryz.prog 59 3 5 := ⟨fun a w => by kernel_rfl⟩
instance : Fld Tryz.prog 59 4 6 := ⟨fun a w => by kernel_rfl⟩
instance : Fld Tryz.prog 59 5 7 := ⟨fun a w => by kernel_rfl⟩
instance : Lay Tryz.prog 59 [(0, 3), (3, 1), (4, 1), (5, 1), (6, 1), (7, 1)] [.int .i64 (0), .int .i64 (0), .int .i64 (0), .slice none 0 0, .pointer none, .int .i64 (0), .slice none 0 0, .slice none 0 0] := ⟨fun w => by kernel_rfl, _, Tryz.underlying59, fun w => by kernel_rfl⟩
instance : Ag Tryz.prog 60 8 [.int .i64 (0), .int .i64 (0), .int .i64 (0), .slice none 0 0, .pointer none, .int .i64 (0), .slice none 0 0, .slice none 0 0] := ⟨fun w => by kernel_rfl, fun w => by kernel_rfl, fun w => by kernel_rfl⟩
instance : Fld Tryz.prog 60 0 0 := ⟨fun a w => by kernel_rfl⟩
instance : Fld Tryz.prog 60 1 3 := ⟨fun a w => by kernel_rfl⟩
instance : Fld Tryz.prog 60 2 4 := ⟨fun a w => by kernel_rfl⟩
instance : Fld Tryz.prog 60 3 5 := ⟨fun a w => by kernel_rfl⟩
instance : Fld Tryz.prog 60 4 6 := ⟨fun a w => by kernel_rfl⟩
instance : Fld Tryz.prog 60 5 7 := ⟨fun a w => by kernel_rfl⟩
instance : Lay Tryz.prog 60 [(0, 3), (3, 1), (4, 1), (5, 1), (6, 1), (7, 1)] [.int .i64 (0), .int .i64 (0), .int .i64 (0), .slice none 0 0, .pointer none, .int .i64 (0), .slice none 0 0, .slice none 0 0] := ⟨fun w => by kernel_rfl, _, Tryz.underlying60, fun w => by kernel_rfl⟩
instance : Ag Tryz.prog 61 3 [.int .i64 (0), .int .i64 (0), .int .i64 (0)] := ⟨fun w => by kernel_rfl, fun w => by kernel_rfl, fun w => by kernel_rfl⟩
instance : Fld Tryz.prog 61 0 0 := ⟨fun a w => by kernel_rfl⟩
instance : Fld Tryz.prog 61 1 1 := ⟨fun a w => by kernel_rfl⟩
instance : Fld Tryz.prog 61 2 2 := ⟨fun a w => by kernel_rfl⟩
instance : Lay Tryz.prog 61 [(0, 1), (1, 1), (2, 1)] [.int .i64 (0), .int .i64 (0), .int .i64 (0)] := ⟨fun w => by kernel_rfl, _, Tryz.underlying61, fun w => by kernel_rfl⟩
instance : Ag Tryz.prog 62 3 [.int .i64 (0), .int .i64 (0), .int .i64 (0)] := ⟨fun w => by kernel_rfl, fun w => by kernel_rfl, fun w => by kernel_rfl⟩
instance : Fld Tryz.prog 62 0 0 := ⟨fun a w => by kernel_rfl⟩
instance : Fld Tryz.prog 62 1 1 := ⟨fun a w => by kernel_rfl⟩
instance : Fld Tryz.prog 62 2 2 := ⟨fun a w => by kernel_rfl⟩
instance : Lay Tryz.prog 62 [(0, 1), (1, 1), (2, 1)] [.int .i64 (0), .int .i64 (0), .int .i64 (0)] := ⟨fun w => by kernel_rfl, _, Tryz.underlying62, fun w => by kernel_rfl⟩
instance : Sc Tryz.prog 63 (.pointer none) := ⟨fun w => by kernel_rfl, fun w => by kernel_rfl, fun w => by kernel_rfl, rfl⟩
instance : Ag Tryz.prog 64 10 [.int .i64 (0), .int .i64 (0), .int .i64 (0), .pointer none, .slice none 0 0, .int .i64 (0), .int .i64 (0), .int .i64 (0), .int .i64 (0), .int .i64 (0)] := ⟨fun w => by kernel_rfl, fun w => by kernel_rfl, fun w => by kernel_rfl⟩
instance : Fld Tryz.prog 64 0 0 := ⟨fun a w => by kernel_rfl⟩
instance : Fld Tryz.prog 64 1 3 := ⟨fun a w => by kernel_rfl⟩
instance : Fld Tryz.prog 64 2 4 := ⟨fun a w => by kernel_rfl⟩
instance : Lay Tryz.prog 64 [(0, 3), (3, 1), (4, 6)] [.int .i64 (0), .int .i64 (0), .int .i64 (0), .pointer none, .slice none 0 0, .int .i64 (0), .int .i64 (0), .int .i64 (0), .int .i64 (0), .int .i64 (0)] := ⟨fun w => by kernel_rfl, _, Tryz.underlying64, fun w => by kernel_rfl⟩
instance : Ag Tryz.prog 65 10 [.int .i64 (0), .int .i64 (0), .int .i64 (0), .pointer none, .slice none 0 0, .int .i64 (0), .int .i64 (0), .int .i64 (0), .int .i64 (0), .int .i64 (0)] := ⟨fun w => by kernel_rfl, fun w => by kernel_rfl, fun w => by kernel_rfl⟩
instance : Fld Tryz.prog 65 0 0 := ⟨fun a w => by kernel_rfl⟩
instance : Fld Tryz.prog 65 1 3 := ⟨fun a w => by kernel_rfl⟩
instance : Fld Tryz.prog 65 2 4 := ⟨fun a w => by kernel_rfl⟩
instance : Lay Tryz.prog 65 [(0, 3), (3, 1), (4, 6)] [.int .i64 (0), .int .i64 (0), .int .i64 (0), .pointer none, .slice none 0 0, .int .i64 (0), .int .i64 (0), .int .i64 (0), .int .i64 (0), .int .i64 (0)] := ⟨fun w => by kernel_rfl, _, Tryz.underlying65, fun w => by kernel_rfl⟩
instance : Ag Tryz.prog 66 5 [.int .i64 (0), .int .i64 (0), .int .i64 (0), .int .i64 (0), .int .u64 (0)] := ⟨fun w => by kernel_rfl, fun w => by kernel_rfl, fun w => by kernel_rfl⟩
instance : Fld Tryz.prog 66 0 0 := ⟨fun a w => by kernel_rfl⟩
instance : Fld Tryz.prog 66 1 1 := ⟨fun a w => by kernel_rfl⟩
instance : Fld Tryz.prog 66 2 2 := ⟨fun a w => by kernel_rfl⟩
instance : Fld Tryz.prog 66 3 3 := ⟨fun a w => by kernel_rfl⟩
instance : Fld Tryz.prog 66 4 4 := ⟨fun a w => by kernel_rfl⟩
instance : Lay Tryz.prog 66 [(0, 1), (1, 1), (2, 1), (3, 1), (4, 1)] [.int .i64 (0), .int .i64 (0), .int .i64 (0), .int .i64 (0), .int .u64 (0)] := ⟨fun w => by kernel_rfl, _, Tryz.underlying66, fun w => by kernel_rfl⟩
instance : Ag Tryz.prog 67 5 [.int .i64 (0), .int .i64 (0), .int .i64 (0), .int .i64 (0), .int .u64 (0)] := ⟨fun w => by kernel_rfl, fun w => by kernel_rfl, fun w => by kernel_rfl⟩
instance : Fld Tryz.prog 67 0 0 := ⟨fun a w => by kernel_rfl⟩
instance : Fld Tryz.prog 67 1 1 := ⟨fun a w => by kernel_rfl⟩
instance : Fld Tryz.prog 67 2 2 := ⟨fun a w => by kernel_rfl⟩
instance : Fld Tryz.prog 67 3 3 := ⟨fun a w => by kernel_rfl⟩
instance : Fld Tryz.prog 67 4 4 := ⟨fun a w => by kernel_rfl⟩
instance : Lay Tryz.prog 67 [(0, 1), (1, 1), (2, 1), (3, 1), (4, 1)] [.int .i64 (0), .int .i64 (0), .int .i64 (0), .int .i64 (0), .int .u64 (0)] := ⟨fun w => by kernel_rfl, _, Tryz.underlying67, fun w => by kernel_rfl⟩
instance : Sc Tryz.prog 68 (.nilFunc) := ⟨fun w => by kernel_rfl, fun w => by kernel_rfl, fun w => by kernel_rfl, rfl⟩
instance : Sc Tryz.prog 69 (.nilFunc) := ⟨fun w => by kernel_rfl, fun w => by kernel_rfl, fun w => by kernel_rfl, rfl⟩
instance : Sc Tryz.prog 70 (.nilFunc) := ⟨fun w => by kernel_rfl, fun w => by kernel_rfl, fun w => by kernel_rfl, rfl⟩
instance : Sc Tryz.prog 71 (.nilFunc) := ⟨fun w => by kernel_rfl, fun w => by kernel_rfl, fun w => by kernel_rfl, rfl⟩
instance : Sc Tryz.prog 72 (.slice none 0 0) := ⟨fun w => by kernel_rfl, fun w => by kernel_rfl, fun w => by kernel_rfl, rfl⟩
instance : Slc Tryz.prog 72 120 15 152 [.int .i64 (0), .int .i64 (0), .int .i64 (0), .int .i64 (0), .slice none 0 0, .slice none 0 0, .int .i64 (0), .int .i64 (0), .int .i64 (0), .int .i64 (0), .int .i64 (0), .int .i64 (0), .int .i64 (0), .int .i64 (0), .int .i64 (0)] := ⟨by kernel_rfl, fun w => by kernel_rfl, by kernel_rfl, rfl, by decide⟩
instance : Ag Tryz.prog 73 5 [.int .u64 (0), .int .u64 (0), .int .i64 (0), .int .i64 (0), .int .i64 (0)] := ⟨fun w => by kernel_rfl, fun w => by kernel_rfl, fun w => by kernel_rfl⟩
instance : Fld Tryz.prog 73 0 0 := ⟨fun a w => by kernel_rfl⟩
instance : Fld Tryz.prog 73 1 1 := ⟨fun a w => by kernel_rfl⟩
instance : Fld Tryz.prog 73 2 2 := ⟨fun a w => by kernel_rfl⟩
instance : Fld Tryz.prog 73 3 3 := ⟨fun a w => by kernel_rfl⟩
instance : Fld Tryz.prog 73 4 4 := ⟨fun a w => by kernel_rfl⟩
instance : Lay Tryz.prog 73 [(0, 1), (1, 1), (2, 1), (3, 1), (4, 1)] [.int .u64 (0), .int .u64 (0), .int .i64 (0), .int .i64 (0), .int .i64 (0)] := ⟨fun w => by kernel_rfl, _, Tryz.underlying73, fun w => by kernel_rfl⟩
instance : Ag Tryz.prog 74 5 [.int .u64 (0), .int .u64 (0), .int .i64 (0), .int .i64 (0), .int .i64 (0)] := ⟨fun w => by kernel_rfl, fun w => by kernel_rfl, fun w => by kernel_rfl⟩
instance : Fld Tryz.prog 74 0 0 := ⟨fun a w => by kernel_rfl⟩
instance : Fld Tryz.prog 74 1 1 := ⟨fun a w => by kernel_rfl⟩
instance : Fld Tryz.prog 74 2 2 := ⟨fun a w => by kernel_rfl⟩
instance : Fld Tryz.prog 74 3 3 := ⟨fun a w => by kernel_rfl⟩
instance : Fld Tryz.prog 74 4 4 := ⟨fun a w => by kernel_rfl⟩
instance : Lay Tryz.prog 74 [(0, 1), (1, 1), (2, 1), (3, 1), (4, 1)] [.int .u64 (0), .int .u64 (0), .int .i64 (0), .int .i64 (0), .int .i64 (0)] := ⟨fun w => by kernel_rfl, _, Tryz.underlying74, fun w => by kernel_rfl⟩
instance : Sc Tryz.prog 75 (.nilFunc) := ⟨fun w => by kernel_rfl, fun w => by kernel_rfl, fun w => by kernel_rfl, rfl⟩
instance : Sc Tryz.prog 76 (.slice none 0 0) := ⟨fun w => by kernel_rfl, fun w => by kernel_rfl, fun w => by kernel_rfl, rfl⟩
instance : Slc Tryz.prog 76 3 1 8 [.int .i64 (0)] := ⟨by kernel_rfl, fun w => by kernel_rfl, by kernel_rfl, rfl, by decide⟩
instance : Sc Tryz.prog 77 (.nilFunc) := ⟨fun w => by kernel_rfl, fun w => by kernel_rfl, fun w => by kernel_rfl, rfl⟩
instance : Ag Tryz.prog 78 4 [.int .i64 (0), .int .i64 (0), .int .i64 (0), .bool false] := ⟨fun w => by kernel_rfl, fun w => by kernel_rfl, fun w => by kernel_rfl⟩
instance : Fld Tryz.prog 78 0 0 := ⟨fun a w => by kernel_rfl⟩
instance : Fld Tryz.prog 78 1 1 := ⟨fun a w => by kernel_rfl⟩
instance : Fld Tryz.prog 78 2 2 := ⟨fun a w => by kernel_rfl⟩
instance : Fld Tryz.prog 78 3 3 := ⟨fun a w => by kernel_rfl⟩
instance : Lay Tryz.prog 78 [(0, 1), (1, 1), (2, 1), (3, 1)] [.int .i64 (0), .int .i64 (0), .int .i64 (0), .bool false] := ⟨fun w => by kernel_rfl, _, Tryz.underlying78, fun w => by kernel_rfl⟩
instance : Ag Tryz.prog 79 4 [.int .i64 (0), .int .i64 (0), .int .i64 (0), .bool false] := ⟨fun w => by kernel_rfl, fun w => by kernel_rfl, fun w => by kernel_rfl⟩
instance : Fld Tryz.prog 79 0 0 := ⟨fun a w => by kernel_rfl⟩
instance : Fld Tryz.prog 79 1 1 := ⟨fun a w => by kernel_rfl⟩
instance : Fld Tryz.prog 79 2 2 := ⟨fun a w => by kernel_rfl⟩
instance : Fld Tryz.prog 79 3 3 := ⟨fun a w => by kernel_rfl⟩
instance : Lay Tryz.prog 79 [(0, 1), (1, 1), (2, 1), (3, 1)] [.int .i64 (0), .int .i64 (0), .int .i64 (0), .bool false] := ⟨fun w => by kernel_rfl, _, Tryz.underlying79, fun w => by kernel_rfl⟩
instance : Sc Tryz.prog 80 (.nilFunc) := ⟨fun w => by kernel_rfl, fun w => by kernel_rfl, fun w => by kernel_rfl, rfl⟩
instance : Sc Tryz.prog 81 (.nilFunc) := ⟨fun w => by kernel_rfl, fun w => by kernel_rfl, fun w => by kernel_rfl, rfl⟩
instance : Sc Tryz.prog 82 (.nilFunc) := ⟨fun w => by kernel_rfl, fun w => by kernel_rfl, fun w => by kernel_rfl, rfl⟩
instance : Sc Tryz.prog 83 (.nilFunc) := ⟨fun w => by kernel_rfl, fun w => by kernel_rfl, fun w => by kernel_rfl, rfl⟩
instance : Sc Tryz.prog 84 (.nilFunc) := ⟨fun w => by kernel_rfl, fun w => by kernel_rfl, fun w => by kernel_rfl, rfl⟩
instance : Sc Tryz.prog 85 (.nilFunc) := ⟨fun w => by kernel_rfl, fun w => by kernel_rfl, fun w => by kernel_rfl, rfl⟩
instance : Sc Tryz.prog 86 (.nilFunc) := ⟨fun w => by kernel_rfl, fun w => by kernel_rfl, fun w => by kernel_rfl, rfl⟩
instance : Sc Tryz.prog 87 (.nilFunc) := ⟨fun w => by kernel_rfl, fun w => by kernel_rfl, fun w => by kernel_rfl, rfl⟩
instance : Sc Tryz.prog 88 (.nilFunc) := ⟨fun w => by kernel_rfl, fun w => by kernel_rfl, fun w => by kernel_rfl, rfl⟩
instance : Sc Tryz.prog 89 (.nilFunc) := ⟨fun w => by kernel_rfl, fun w => by kernel_rfl, fun w => by kernel_rfl, rfl⟩
instance : Sc Tryz.prog 90 (.nilFunc) := ⟨fun w => by kernel_rfl, fun w => by kernel_rfl, fun w => by kernel_rfl, rfl⟩
instance : Sc Tryz.prog 91 (.nilFunc) := ⟨fun w => by kernel_rfl, fun w => by kernel_rfl, fun w => by kernel_rfl, rfl⟩
instance : Sc Tryz.prog 92 (.nilFunc) := ⟨fun w => by kernel_rfl, fun w => by kernel_rfl, fun w => by kernel_rfl, rfl⟩
instance : Sc Tryz.prog 93 (.nilFunc) := ⟨fun w => by kernel_rfl, fun w => by kernel_rfl, fun w => by kernel_rfl, rfl⟩
instance : Sc Tryz.prog 94 (.nilFunc) := ⟨fun w => by kernel_rfl, fun w => by kernel_rfl, fun w => by kernel_rfl, rfl⟩
instance : Sc Tryz.prog 95 (.nilFunc) := ⟨fun w => by kernel_rfl, fun w => by kernel_rfl, fun w => by kernel_rfl, rfl⟩
instance : Sc Tryz.prog 96 (.nilFunc) := ⟨fun w => by kernel_rfl, fun w => by kernel_rfl, fun w => by kernel_rfl, rfl⟩
instance : Sc Tryz.prog 97 (.pointer none) := ⟨fun w => by kernel_rfl, fun w => by kernel_rfl, fun w => by kernel_rfl, rfl⟩
instance : Sc Tryz.prog 98 (.nilFunc) := ⟨fun w => by kernel_rfl, fun w => by kernel_rfl, fun w => by kernel_rfl, rfl⟩
instance : Ag Tryz.prog 99 8 [.pointer none, .pointer none, .pointer none, .pointer none, .pointer none, .pointer none, .pointer none, .pointer none] := ⟨fun w => by kernel_rfl, fun w => by kernel_rfl, fun w => by kernel_rfl⟩
instance : Arr Tryz.prog 99 8 51 1 := ⟨by kernel_rfl, fun w => by kernel_rfl⟩
instance : Sc Tryz.prog 100 (.slice none 0 0) := ⟨fun w => by kernel_rfl, fun w => by kernel_rfl, fun w => by kernel_rfl, rfl⟩
instance : Slc Tryz.prog 100 108 4 32 [.int .i64 (0), .int .i64 (0), .int .i64 (0), .int .u64 (0)] := ⟨by kernel_rfl, fun w => by kernel_rfl, by kernel_rfl, rfl, by decide⟩
instance : Ag Tryz.prog 101 15 [.int .i64 (0), .int .i64 (0), .int .i64 (0), .slice none 0 0, .pointer none, .pointer none, .pointer none, .pointer none, .pointer none, .pointer none, .pointer none, .pointer none, .slice none 0 0, .pointer none, .int .i64 (0)] := ⟨fun w => by kernel_rfl, fun w => by kernel_rfl, fun w => by kernel_rfl⟩
instance : Fld Tryz.prog 101 0 0 := ⟨fun a w => by kernel_rfl⟩
instance : Fld Tryz.prog 101 1 4 := ⟨fun a w => by kernel_rfl⟩
instance : Fld Tryz.prog 101 2 12 := ⟨fun a w => by kernel_rfl⟩
instance : Fld Tryz.prog 101 3 13 := ⟨fun a w => by kernel_rfl⟩
instance : Fld Tryz.prog 101 4 14 := ⟨fun a w => by kernel_rfl⟩
instance : Lay Tryz.prog 101 [(0, 4), (4, 8), (12, 1), (13, 1), (14, 1)] [.int .i64 (0), .int .i64 (0), .int .i64 (0), .slice none 0 0, .pointer none, .pointer none, .pointer none, .pointer none, .pointer none, .pointer none, .pointer none, .pointer none, .slice none 0 0, .pointer none, .int .i64 (0)] := ⟨fun w => by kernel_rfl, _, Tryz.underlying101, fun w => by kernel_rfl⟩
instance : Ag Tryz.prog 102 15 [.int .i64 (0), .int .i64 (0), .int .i64 (0), .slice none 0 0, .pointer none, .pointer none, .pointer none, .pointer none, .pointer none, .pointer none, .pointer none, .pointer none, .slice none 0 0, .pointer none, .int .i64 (0)] := ⟨fun w => by kernel_rfl, fun w => by kernel_rfl, fun w => by kernel_rfl⟩
instance : Fld Tryz.prog 102 0 0 := ⟨fun a w => by kernel_rfl⟩
instance : Fld Tryz.prog 102 1 4 := ⟨fun a w => by kernel_rfl⟩
instance : Fld Tryz.prog 102 2 12 := ⟨fun a w => by kernel_rfl⟩
instance : Fld Tryz.prog 102 3 13 := ⟨fun a w => by kernel_rfl⟩
instance : Fld Tryz.prog 102 4 14 := ⟨fun a w => by kernel_rfl⟩
instance : Lay Tryz.prog 102 [(0, 4), (4, 8), (12, 1), (13, 1), (14, 1)] [.int .i64 (0), .int .i64 (0), .int .i64 (0), .slice none 0 0, .pointer none, .pointer none, .pointer none, .pointer none, .pointer none, .pointer none, .pointer none, .pointer none, .slice none 0 0, .pointer none, .int .i64 (0)] := ⟨fun w => by kernel_rfl, _, Tryz.underlying102, fun w => by kernel_rfl⟩
instance : Ag Tryz.prog 103 1 [.int .i64 (0)] := ⟨fun w => by kernel_rfl, fun w => by kernel_rfl, fun w => by kernel_rfl⟩
instance : Fld Tryz.prog 103 0 0 := ⟨fun a w => by kernel_rfl⟩
instance : Lay Tryz.prog 103 [(0, 1)] [.int .i64 (0)] := ⟨fun w => by kernel_rfl, _, Tryz.underlying103, fun w => by kernel_rfl⟩
instance : Ag Tryz.prog 104 1 [.int .i64 (0)] := ⟨fun w => by kernel_rfl, fun w => by kernel_rfl, fun w => by kernel_rfl⟩
instance : Fld Tryz.prog 104 0 0 := ⟨fun a w => by kernel_rfl⟩
instance : Lay Tryz.prog 104 [(0, 1)] [.int .i64 (0)] := ⟨fun w => by kernel_rfl, _, Tryz.underlying104, fun w => by kernel_rfl⟩
instance : Ag Tryz.prog 105 3 [.int .i64 (0), .int .i64 (0), .int .i64 (0)] := ⟨fun w => by kernel_rfl, fun w => by kernel_rfl, fun w => by kernel_rfl⟩
instance : Fld Tryz.prog 105 0 0 := ⟨fun a w => by kernel_rfl⟩
instance : Fld Tryz.prog 105 1 1 := ⟨fun a w => by kernel_rfl⟩
instance : Fld Tryz.prog 105 2 2 := ⟨fun a w => by kernel_rfl⟩
instance : Lay Tryz.prog 105 [(0, 1), (1, 1), (2, 1)] [.int .i64 (0), .int .i64 (0), .int .i64 (0)] := ⟨fun w => by kernel_rfl, _, Tryz.underlying105, fun w => by kernel_rfl⟩
instance : Ag Tryz.prog 106 3 [.int .i64 (0), .int .i64 (0), .int .i64 (0)] := ⟨fun w => by kernel_rfl, fun w => by kernel_rfl, fun w => by kernel_rfl⟩
instance : Fld Tryz.prog 106 0 0 := ⟨fun a w => by kernel_rfl⟩
instance : Fld Tryz.prog 106 1 1 := ⟨fun a w => by kernel_rfl⟩
instance : Fld Tryz.prog 106 2 2 := ⟨fun a w => by kernel_rfl⟩
instance : Lay Tryz.prog 106 [(0, 1), (1, 1), (2, 1)] [.int .i64 (0), .int .i64 (0), .int .i64 (0)] := ⟨fun w => by kernel_rfl, _, Tryz.underlying106, fun w => by kernel_rfl⟩
instance : Ag Tryz.prog 107 4 [.int .i64 (0), .int .i64 (0), .int .i64 (0), .int .u64 (0)] := ⟨fun w => by kernel_rfl, fun w => by kernel_rfl, fun w => by kernel_rfl⟩
instance : Fld Tryz.prog 107 0 0 := ⟨fun a w => by kernel_rfl⟩
instance : Fld Tryz.prog 107 1 3 := ⟨fun a w => by kernel_rfl⟩
instance : Lay Tryz.prog 107 [(0, 3), (3, 1)] [.int .i64 (0), .int .i64 (0), .int .i64 (0), .int .u64 (0)] := ⟨fun w => by kernel_rfl, _, Tryz.underlying107, fun w => by kernel_rfl⟩
instance : Ag Tryz.prog 108 4 [.int .i64 (0), .int .i64 (0), .int .i64 (0), .int .u64 (0)] := ⟨fun w => by kernel_rfl, fun w => by kernel_rfl, fun w => by kernel_rfl⟩
instance : Fld Tryz.prog 108 0 0 := ⟨fun a w => by kernel_rfl⟩
instance : Fld Tryz.prog 108 1 3 := ⟨fun a w => by kernel_rfl⟩
instance : Lay Tryz.prog 108 [(0, 3), (3, 1)] [.int .i64 (0), .int .i64 (0), .int .i64 (0), .int .u64 (0)] := ⟨fun w => by kernel_rfl, _, Tryz.underlying108, fun w => by kernel_rfl⟩
instance : Sc Tryz.prog 109 (.nilFunc) := ⟨fun w => by kernel_rfl, fun w => by kernel_rfl, fun w => by kernel_rfl, rfl⟩
instance : Sc Tryz.prog 110 (.nilFunc) := ⟨fun w => by kernel_rfl, fun w => by kernel_rfl, fun w => by kernel_rfl, rfl⟩
instance : Sc Tryz.prog 111 (.nilFunc) := ⟨fun w => by kernel_rfl, fun w => by kernel_rfl, fun w => by kernel_rfl, rfl⟩
instance : Sc Tryz.prog 112 (.map none) := ⟨fun w => by kernel_rfl, fun w => by kernel_rfl, fun w => by kernel_rfl, rfl⟩
instance : Ag Tryz.prog 113 4 [.int .i64 (0), .int .i64 (0), .int .i64 (0), .map none] := ⟨fun w => by kernel_rfl, fun w => by kernel_rfl, fun w => by kernel_rfl⟩
instance : Fld Tryz.prog 113 0 0 := ⟨fun a w => by kernel_rfl⟩
instance : Fld Tryz.prog 113 1 1 := ⟨fun a w => by kernel_rfl⟩
instance : Fld Tryz.prog 113 2 2 := ⟨fun a w => by kernel_rfl⟩
instance : Fld Tryz.prog 113 3 3 := ⟨fun a w => by kernel_rfl⟩
instance : Lay Tryz.prog 113 [(0, 1), (1, 1), (2, 1), (3, 1)] [.int .i64 (0), .int .i64 (0), .int .i64 (0), .map none] := ⟨fun w => by kernel_rfl, _, Tryz.underlying113, fun w => by kernel_rfl⟩
instance : Ag Tryz.prog 114 4 [.int .i64 (0), .int .i64 (0), .int .i64 (0), .map none] := ⟨fun w => by kernel_rfl, fun w => by kernel_rfl, fun w => by kernel_rfl⟩
instance : Fld Tryz.prog 114 0 0 := ⟨fun a w => by kernel_rfl⟩
instance : Fld Tryz.prog 114 1 1 := ⟨fun a w => by kernel_rfl⟩
instance : Fld Tryz.prog 114 2 2 := ⟨fun a w => by kernel_rfl⟩
instance : Fld Tryz.prog 114 3 3 := ⟨fun a w => by kernel_rfl⟩
instance : Lay Tryz.prog 114 [(0, 1), (1, 1), (2, 1), (3, 1)] [.int .i64 (0), .int .i64 (0), .int .i64 (0), .map none] := ⟨fun w => by kernel_rfl, _, Tryz.underlying114, fun w => by kernel_rfl⟩
instance : Ag Tryz.prog 115 7 [.slice none 0 0, .slice none 0 0, .int .i64 (0), .int .i64 (0), .int .i64 (0), .int .i64 (0), .int .i64 (0)] := ⟨fun w => by kernel_rfl, fun w => by kernel_rfl, fun w => by kernel_rfl⟩
instance : Fld Tryz.prog 115 0 0 := ⟨fun a w => by kernel_rfl⟩
instance : Fld Tryz.prog 115 1 1 := ⟨fun a w => by kernel_rfl⟩
instance : Fld Tryz.prog 115 2 2 := ⟨fun a w => by kernel_rfl⟩
instance : Fld Tryz.prog 115 3 3 := ⟨fun a w => by kernel_rfl⟩
instance : Fld Tryz.prog 115 4 4 := ⟨fun a w => by kernel_rfl⟩
instance : Fld Tryz.prog 115 5 5 := ⟨fun a w => by kernel_rfl⟩
instance : Fld Tryz.prog 115 6 6 := ⟨fun a w => by kernel_rfl⟩
instance : Lay Tryz.prog 115 [(0, 1), (1, 1), (2, 1), (3, 1), (4, 1), (5, 1), (6, 1)] [.slice none 0 0, .slice none 0 0, .int .i64 (0), .int .i64 (0), .int .i64 (0), .int .i64 (0), .int .i64 (0)] := ⟨fun w => by kernel_rfl, _, Tryz.underlying115, fun w => by kernel_rfl⟩
instance : Ag Tryz.prog 116 7 [.slice none 0 0, .slice none 0 0, .int .i64 (0), .int .i64 (0), .int .i64 (0), .int .i64 (0), .int .i64 (0)] := ⟨fun w => by kernel_rfl, fun w => by kernel_rfl, fun w => by kernel_rfl⟩
instance : Fld Tryz.prog 116 0 0 := ⟨fun a w => by kernel_rfl⟩
instance : Fld Tryz.prog 116 1 1 := ⟨fun a w => by kernel_rfl⟩
instance : Fld Tryz.prog 116 2 2 := ⟨fun a w => by kernel_rfl⟩
instance : Fld Tryz.prog 116 3 3 := ⟨fun a w => by kernel_rfl⟩
instance : Fld Tryz.prog 116 4 4 := ⟨fun a w => by kernel_rfl⟩
instance : Fld Tryz.prog 116 5 5 := ⟨fun a w => by kernel_rfl⟩
instance : Fld Tryz.prog 116 6 6 := ⟨fun a w => by kernel_rfl⟩
instance : Lay Tryz.prog 116 [(0, 1), (1, 1), (2, 1), (3, 1), (4, 1), (5, 1), (6, 1)] [.slice none 0 0, .slice none 0 0, .int .i64 (0), .int .i64 (0), .int .i64 (0), .int .i64 (0), .int .i64 (0)] := ⟨fun w => by kernel_rfl, _, Tryz.underlying116, fun w => by kernel_rfl⟩
instance : Ag Tryz.prog 117 4 [.int .i64 (0), .int .i64 (0), .int .i64 (0), .int .i64 (0)] := ⟨fun w => by kernel_rfl, fun w => by kernel_rfl, fun w => by kernel_rfl⟩
instance : Fld Tryz.prog 117 0 0 := ⟨fun a w => by kernel_rfl⟩
instance : Fld Tryz.prog 117 1 1 := ⟨fun a w => by kernel_rfl⟩
instance : Fld Tryz.prog 117 2 2 := ⟨fun a w => by kernel_rfl⟩
instance : Fld Tryz.prog 117 3 3 := ⟨fun a w => by kernel_rfl⟩
instance : Lay Tryz.prog 117 [(0, 1), (1, 1), (2, 1), (3, 1)] [.int .i64 (0), .int .i64 (0), .int .i64 (0), .int .i64 (0)] := ⟨fun w => by kernel_rfl, _, Tryz.underlying117, fun w => by kernel_rfl⟩
instance : Ag Tryz.prog 118 4 [.int .i64 (0), .int .i64 (0), .int .i64 (0), .int .i64 (0)] := ⟨fun w => by kernel_rfl, fun w => by kernel_rfl, fun w => by kernel_rfl⟩
instance : Fld Tryz.prog 118 0 0 := ⟨fun a w => by kernel_rfl⟩
instance : Fld Tryz.prog 118 1 1 := ⟨fun a w => by kernel_rfl⟩
instance : Fld Tryz.prog 118 2 2 := ⟨fun a w => by kernel_rfl⟩
instance : Fld Tryz.prog 118 3 3 := ⟨fun a w => by kernel_rfl⟩
instance : Lay Tryz.prog 118 [(0, 1), (1, 1), (2, 1), (3, 1)] [.int .i64 (0), .int .i64 (0), .int .i64 (0), .int .i64 (0)] := ⟨fun w => by kernel_rfl, _, Tryz.underlying118, fun w => by kernel_rfl⟩
instance : Ag Tryz.prog 119 15 [.int .i64 (0), .int .i64 (0), .int .i64 (0), .int .i64 (0), .slice none 0 0, .slice none 0 0, .int .i64 (0), .int .i64 (0), .int .i64 (0), .int .i64 (0), .int .i64 (0), .int .i64 (0), .int .i64 (0), .int .i64 (0), .int .i64 (0)] := ⟨fun w => by kernel_rfl, fun w => by kernel_rfl, fun w => by kernel_rfl⟩
instance : Fld Tryz.prog 119 0 0 := ⟨fun a w => by kernel_rfl⟩
instance : Fld Tryz.prog 119 1 1 := ⟨fun a w => by kernel_rfl⟩
instance : Fld Tryz.prog 119 2 2 := ⟨fun a w => by kernel_rfl⟩
instance : Fld Tryz.prog 119 3 3 := ⟨fun a w => by kernel_rfl⟩
instance : Fld Tryz.prog 119 4 4 := ⟨fun a w => by kernel_rfl⟩
instance : Fld Tryz.prog 119 5 11 := ⟨fun a w => by kernel_rfl⟩
instance : Lay Tryz.prog 119 [(0, 1), (1, 1), (2, 1), (3, 1), (4, 7), (11, 4)] [.int .i64 (0), .int .i64 (0), .int .i64 (0), .int .i64 (0), .slice none 0 0, .slice none 0 0, .int .i64 (0), .int .i64 (0), .int .i64 (0), .int .i64 (0), .int .i64 (0), .int .i64 (0), .int .i64 (0), .int .i64 (0), .int .i64 (0)] := ⟨fun w => by kernel_rfl, _, Tryz.underlying119, fun w => by kernel_rfl⟩
instance : Ag Tryz.prog 120 15 [.int .i64 (0), .int .i64 (0), .int .i64 (0), .int .i64 (0), .slice none 0 0, .slice none 0 0, .int .i64 (0), .int .i64 (0), .int .i64 (0), .int .i64 (0), .int .i64 (0), .int .i64 (0), .int .i64 (0), .int .i64 (0), .int .i64 (0)] := ⟨fun w => by kernel_rfl, fun w => by kernel_rfl, fun w => by kernel_rfl⟩
instance : Fld Tryz.prog 120 0 0 := ⟨fun a w => by kernel_rfl⟩
instance : Fld Tryz.prog 120 1 1 := ⟨fun a w => by kernel_rfl⟩
instance : Fld Tryz.prog 120 2 2 := ⟨fun a w => by kernel_rfl⟩
instance : Fld Tryz.prog 120 3 3 := ⟨fun a w => by kernel_rfl⟩
instance : Fld Tryz.prog 120 4 4 := ⟨fun a w => by kernel_rfl⟩
instance : Fld Tryz.prog 120 5 11 := ⟨fun a w => by kernel_rfl⟩
instance : Lay Tryz.prog 120 [(0, 1), (1, 1), (2, 1), (3, 1), (4, 7), (11, 4)] [.int .i64 (0), .int .i64 (0), .int .i64 (0), .int .i64 (0), .slice none 0 0, .slice none 0 0, .int .i64 (0), .int .i64 (0), .int .i64 (0), .int .i64 (0), .int .i64 (0), .int .i64 (0), .int .i64 (0), .int .i64 (0), .int .i64 (0)] := ⟨fun w => by kernel_rfl, _, Tryz.underlying120, fun w => by kernel_rfl⟩
instance : Sc Tryz.prog 121 (.nilFunc) := ⟨fun w => by kernel_rfl, fun w => by kernel_rfl, fun w => by kernel_rfl, rfl⟩
instance : Sc Tryz.prog 122 (.nilFunc) := ⟨fun w => by kernel_rfl, fun w => by kernel_rfl, fun w => by kernel_rfl, rfl⟩
instance : Sc Tryz.prog 123 (.slice none 0 0) := ⟨fun w => by kernel_rfl, fun w => by kernel_rfl, fun w => by kernel_rfl, rfl⟩
instance : Slc Tryz.prog 123 118 4 32 [.int .i64 (0), .int .i64 (0), .int .i64 (0), .int .i64 (0)] := ⟨by kernel_rfl, fun w => by kernel_rfl, by kernel_rfl, rfl, by decide⟩
instance : Sc Tryz.prog 124 (.nilFunc) := ⟨fun w => by kernel_rfl, fun w => by kernel_rfl, fun w => by kernel_rfl, rfl⟩
instance : Sc Tryz.prog 125 (.nilFunc) := ⟨fun w => by kernel_rfl, fun w => by kernel_rfl, fun w => by kernel_rfl, rfl⟩
instance : Sc Tryz.prog 126 (.nilFunc) := ⟨fun w => by kernel_rfl, fun w => by kernel_rfl, fun w => by kernel_rfl, rfl⟩
instance : Sc Tryz.prog 127 (.nilFunc) := ⟨fun w => by kernel_rfl, fun w => by kernel_rfl, fun w => by kernel_rfl, rfl⟩
instance : Sc Tryz.prog 128 (.nilFunc) := ⟨fun w => by kernel_rfl, fun w => by kernel_rfl, fun w => by kernel_rfl, rfl⟩
instance : Sc Tryz.prog 129 (.nilFunc) := ⟨fun w => by kernel_rfl, fun w => by kernel_rfl, fun w => by kernel_rfl, rfl⟩
instance : Sc Tryz.prog 130 (.nilFunc) := ⟨fun w => by kernel_rfl, fun w => by kernel_rfl, fun w => by kernel_rfl, rfl⟩
instance : Sc Tryz.prog 131 (.nilFunc) := ⟨fun w => by kernel_rfl, fun w => by kernel_rfl, fun w => by kernel_rfl, rfl⟩
instance : Sc Tryz.prog 132 (.slice none 0 0) := ⟨fun w => by kernel_rfl, fun w => by kernel_rfl, fun w => by kernel_rfl, rfl⟩
instance : Slc Tryz.prog 132 135 2 16 [.int .i64 (0), .int .i64 (0)] := ⟨by kernel_rfl, fun w => by kernel_rfl, by kernel_rfl, rfl, by decide⟩
instance : Sc Tryz.prog 133 (.nilFunc) := ⟨fun w => by kernel_rfl, fun w => by kernel_rfl, fun w => by kernel_rfl, rfl⟩
instance : Ag Tryz.prog 134 2 [.int .i64 (0), .int .i64 (0)] := ⟨fun w => by kernel_rfl, fun w => by kernel_rfl, fun w => by kernel_rfl⟩
instance : Fld Tryz.prog 134 0 0 := ⟨fun a w => by kernel_rfl⟩
instance : Fld Tryz.prog 134 1 1 := ⟨fun a w => by kernel_rfl⟩
instance : Lay Tryz.prog 134 [(0, 1), (1, 1)] [.int .i64 (0), .int .i64 (0)] := ⟨fun w => by kernel_rfl, _, Tryz.underlying134, fun w => by kernel_rfl⟩
instance : Ag Tryz.prog 135 2 [.int .i64 (0), .int .i64 (0)] := ⟨fun w => by kernel_rfl, fun w => by kernel_rfl, fun w => by kernel_rfl⟩
instance : Fld Tryz.prog 135 0 0 := ⟨fun a w => by kernel_rfl⟩
instance : Fld Tryz.prog 135 1 1 := ⟨fun a w => by kernel_rfl⟩
instance : Lay Tryz.prog 135 [(0, 1), (1, 1)] [.int .i64 (0), .int .i64 (0)] := ⟨fun w => by kernel_rfl, _, Tryz.underlying135, fun w => by kernel_rfl⟩
instance : Sc Tryz.prog 136 (.nilFunc) := ⟨fun w => by kernel_rfl, fun w => by kernel_rfl, fun w => by kernel_rfl, rfl⟩
instance : Sc Tryz.prog 137 (.nilFunc) := ⟨fun w => by kernel_rfl, fun w => by kernel_rfl, fun w => by kernel_rfl, rfl⟩
instance : Sc Tryz.prog 138 (.nilFunc) := ⟨fun w => by kernel_rfl, fun w => by kernel_rfl, fun w => by kernel_rfl, rfl⟩
instance : Sc Tryz.prog 139 (.nilFunc) := ⟨fun w => by kernel_rfl, fun w => by kernel_rfl, fun w => by kernel_rfl, rfl⟩
instance : Ag Tryz.prog 140 5 [.int .i64 (0), .int .i64 (0), .int .i64 (0), .int .i64 (0), .int .i64 (0)] := ⟨fun w => by kernel_rfl, fun w => by kernel_rfl, fun w => by kernel_rfl⟩
instance : Fld Tryz.prog 140 0 0 := ⟨fun a w => by kernel_rfl⟩
instance : Fld Tryz.prog 140 1 1 := ⟨fun a w => by kernel_rfl⟩
instance : Fld Tryz.prog 140 2 2 := ⟨fun a w => by kernel_rfl⟩
instance : Fld Tryz.prog 140 3 3 := ⟨fun a w => by kernel_rfl⟩
instance : Fld Tryz.prog 140 4 4 := ⟨fun a w => by kernel_rfl⟩
instance : Lay Tryz.prog 140 [(0, 1), (1, 1), (2, 1), (3, 1), (4, 1)] [.int .i64 (0), .int .i64 (0), .int .i64 (0), .int .i64 (0), .int .i64 (0)] := ⟨fun w => by kernel_rfl, _, Tryz.underlying140, fun w => by kernel_rfl⟩
instance : Ag Tryz.prog 141 5 [.int .i64 (0), .int .i64 (0), .int .i64 (0), .int .i64 (0), .int .i64 (0)] := ⟨fun w => by kernel_rfl, fun w => by kernel_rfl, fun w => by kernel_rfl⟩
instance : Fld Tryz.prog 141 0 0 := ⟨fun a w => by kernel_rfl⟩
instance : Fld Tryz.prog 141 1 1 := ⟨fun a w => by kernel_rfl⟩
instance : Fld Tryz.prog 141 2 2 := ⟨fun a w => by kernel_rfl⟩
instance : Fld Tryz.prog 141 3 3 := ⟨fun a w => by kernel_rfl⟩
instance : Fld Tryz.prog 141 4 4 := ⟨fun a w => by kernel_rfl⟩
instance : Lay Tryz.prog 141 [(0, 1), (1, 1), (2, 1), (3, 1), (4, 1)] [.int .i64 (0), .int .i64 (0), .int .i64 (0), .int .i64 (0), .int .i64 (0)] := ⟨fun w => by kernel_rfl, _, Tryz.underlying141, fun w => by kernel_rfl⟩
instance : Sc Tryz.prog 142 (.nilFunc) := ⟨fun w => by kernel_rfl, fun w => by kernel_rfl, fun w => by kernel_rfl, rfl⟩
instance : Sc Tryz.prog 143 (.nilFunc) := ⟨fun w => by kernel_rfl, fun w => by kernel_rfl, fun w => by kernel_rfl, rfl⟩
instance : Ag Tryz.prog 144 8 [.slice none 0 0, .slice none 0 0, .slice none 0 0, .slice none 0 0, .slice none 0 0, .slice none 0 0, .slice none 0 0, .slice none 0 0] := ⟨fun w => by kernel_rfl, fun w => by kernel_rfl, fun w => by kernel_rfl⟩
instance : Arr Tryz.prog 144 8 47 1 := ⟨by kernel_rfl, fun w => by kernel_rfl⟩
instance : Ag Tryz.prog 145 8 [.slice none 0 0, .slice none 0 0, .slice none 0 0, .slice none 0 0, .slice none 0 0, .slice none 0 0, .slice none 0 0, .slice none 0 0] := ⟨fun w => by kernel_rfl, fun w => by kernel_rfl, fun w => by kernel_rfl⟩
instance : Fld Tryz.prog 145 0 0 := ⟨fun a w => by kernel_rfl⟩
instance : Lay Tryz.prog 145 [(0, 8)] [.slice none 0 0, .slice none 0 0, .slice none 0 0, .slice none 0 0, .slice none 0 0, .slice none 0 0, .slice none 0 0, .slice none 0 0] := ⟨fun w => by kernel_rfl, _, Tryz.underlying145, fun w => by kernel_rfl⟩
instance : Ag Tryz.prog 146 8 [.slice none 0 0, .slice none 0 0, .slice none 0 0, .slice none 0 0, .slice none 0 0, .slice none 0 0, .slice none 0 0, .slice none 0 0] := ⟨fun w => by kernel_rfl, fun w => by kernel_rfl, fun w => by kernel_rfl⟩
instance : Fld Tryz.prog 146 0 0 := ⟨fun a w => by kernel_rfl⟩
instance : Lay Tryz.prog 146 [(0, 8)] [.slice none 0 0, .slice none 0 0, .slice none 0 0, .slice none 0 0, .slice none 0 0, .slice none 0 0, .slice none 0 0, .slice none 0 0] := ⟨fun w => by kernel_rfl, _, Tryz.underlying146, fun w => by kernel_rfl⟩
instance : Sc Tryz.prog 147 (.nilFunc) := ⟨fun w => by kernel_rfl, fun w => by kernel_rfl, fun w => by kernel_rfl, rfl⟩
instance : Sc Tryz.prog 148 (.nilFunc) := ⟨fun w => by kernel_rfl, fun w => by kernel_rfl, fun w => by kernel_rfl, rfl⟩
instance : Sc Tryz.prog 150 (.nilFunc) := ⟨fun w => by kernel_rfl, fun w => by kernel_rfl, fun w => by kernel_rfl, rfl⟩
instance : Sc Tryz.prog 151 (.nilFunc) := ⟨fun w => by kernel_rfl, fun w => by kernel_rfl, fun w => by kernel_rfl, rfl⟩
instance : Sc Tryz.prog 153 (.nilFunc) := ⟨fun w => by kernel_rfl, fun w => by kernel_rfl, fun w => by kernel_rfl, rfl⟩
instance : Sc Tryz.prog 154 (.nilFunc) := ⟨fun w => by kernel_rfl, fun w => by kernel_rfl, fun w => by kernel_rfl, rfl⟩
instance : Sc Tryz.prog 155 (.nilFunc) := ⟨fun w => by kernel_rfl, fun w => by kernel_rfl, fun w => by kernel_rfl, rfl⟩
instance : Sc Tryz.prog 156 (.nilFunc) := ⟨fun w => by kernel_rfl, fun w => by kernel_rfl, fun w => by kernel_rfl, rfl⟩
instance : Sc Tryz.prog 157 (.nilFunc) := ⟨fun w => by kernel_rfl, fun w => by kernel_rfl, fun w => by kernel_rfl, rfl⟩
instance : Ag Tryz.prog 158 2 [.int .i64 (0), .int .i64 (0)] := ⟨fun w => by kernel_rfl, fun w => by kernel_rfl, fun w => by kernel_rfl⟩
instance : Fld Tryz.prog 158 0 0 := ⟨fun a w => by kernel_rfl⟩
instance : Fld Tryz.prog 158 1 1 := ⟨fun a w => by kernel_rfl⟩
instance : Lay Tryz.prog 158 [(0, 1), (1, 1)] [.int .i64 (0), .int .i64 (0)] := ⟨fun w => by kernel_rfl, _, Tryz.underlying158, fun w => by kernel_rfl⟩
instance : Ag Tryz.prog 159 2 [.int .i64 (0), .int .i64 (0)] := ⟨fun w => by kernel_rfl, fun w => by kernel_rfl, fun w => by kernel_rfl⟩
instance : Fld Tryz.prog 159 0 0 := ⟨fun a w => by kernel_rfl⟩
instance : Fld Tryz.prog 159 1 1 := ⟨fun a w => by kernel_rfl⟩
instance : Lay Tryz.prog 159 [(0, 1), (1, 1)] [.int .i64 (0), .int .i64 (0)] := ⟨fun w => by kernel_rfl, _, Tryz.underlying159, fun w => by kernel_rfl⟩
instance : Sc Tryz.prog 160 (.nilFunc) := ⟨fun w => by kernel_rfl, fun w => by kernel_rfl, fun w => by kernel_rfl, rfl⟩
instance : Sc Tryz.prog 161 (.nilFunc) := ⟨fun w => by kernel_rfl, fun w => by kernel_rfl, fun w => by kernel_rfl, rfl⟩
instance : Sc Tryz.prog 162 (.nilFunc) := ⟨fun w => by kernel_rfl, fun w => by kernel_rfl, fun w => by kernel_rfl, rfl⟩
instance : Sc Tryz.prog 163 (.nilFunc) := ⟨fun w => by kernel_rfl, fun w => by kernel_rfl, fun w => by kernel_rfl, rfl⟩
instance : Sc Tryz.prog 164 (.nilFunc) := ⟨fun w => by kernel_rfl, fun w => by kernel_rfl, fun w => by kernel_rfl, rfl⟩
instance : Sc Tryz.prog 165 (.nilFunc) := ⟨fun w => by kernel_rfl, fun w => by kernel_rfl, fun w => by kernel_rfl, rfl⟩
instance : Sc Tryz.prog 166 (.nilFunc) := ⟨fun w => by kernel_rfl, fun w => by kernel_rfl, fun w => by kernel_rfl, rfl⟩
instance : Sc Tryz.prog 167 (.nilFunc) := ⟨fun w => by kernel_rfl, fun w => by kernel_rfl, fun w => by kernel_rfl, rfl⟩
instance : Sc Tryz.prog 168 (.nilFunc) := ⟨fun w => by kernel_rfl, fun w => by kernel_rfl, fun w => by kernel_rfl, rfl⟩
instance : Sc Tryz.prog 169 (.slice none 0 0) := ⟨fun w => by kernel_rfl, fun w => by kernel_rfl, fun w => by kernel_rfl, rfl⟩
instance : Slc Tryz.prog 169 35 1 8 [.int .u64 (0)] := ⟨by kernel_rfl, fun w => by kernel_rfl, by kernel_rfl, rfl, by decide⟩
instance : Sc Tryz.prog 170 (.nilFunc) := ⟨fun w => by kernel_rfl, fun w => by kernel_rfl, fun w => by kernel_rfl, rfl⟩
instance : Sc Tryz.prog 171 (.nilFunc) := ⟨fun w => by kernel_rfl, fun w => by kernel_rfl, fun w => by kernel_rfl, rfl⟩
instance : Sc Tryz.prog 172 (.nilFunc) := ⟨fun w => by kernel_rfl, fun w => by kernel_rfl, fun w => by kernel_rfl, rfl⟩
instance : Sc Tryz.prog 173 (.nilFunc) := ⟨fun w => by kernel_rfl, fun w => by kernel_rfl, fun w => by kernel_rfl, rfl⟩
instance : Ag Tryz.prog 174 4 [.int .i64 (0), .int .i64 (0), .int .i64 (0), .int .u64 (0)] := ⟨fun w => by kernel_rfl, fun w => by kernel_rfl, fun w => by kernel_rfl⟩
instance : Fld Tryz.prog 174 0 0 := ⟨fun a w => by kernel_rfl⟩
instance : Fld Tryz.prog 174 1 3 := ⟨fun a w => by kernel_rfl⟩
instance : Lay Tryz.prog 174 [(0, 3), (3, 1)] [.int .i64 (0), .int .i64 (0), .int .i64 (0), .int .u64 (0)] := ⟨fun w => by kernel_rfl, _, Tryz.underlying174, fun w => by kernel_rfl⟩
instance : Ag Tryz.prog 175 4 [.int .i64 (0), .int .i64 (0), .int .i64 (0), .int .u64 (0)] := ⟨fun w => by kernel_rfl, fun w => by kernel_rfl, fun w => by kernel_rfl⟩
instance : Fld Tryz.prog 175 0 0 := ⟨fun a w => by kernel_rfl⟩
instance : Fld Tryz.prog 175 1 3 := ⟨fun a w => by kernel_rfl⟩
instance : Lay Tryz.prog 175 [(0, 3), (3, 1)] [.int .i64 (0), .int .i64 (0), .int .i64 (0), .int .u64 (0)] := ⟨fun w => by kernel_rfl, _, Tryz.underlying175, fun w => by kernel_rfl⟩
instance : Sc Tryz.prog 176 (.nilFunc) := ⟨fun w => by kernel_rfl, fun w => by kernel_rfl, fun w => by kernel_rfl, rfl⟩
instance : Sc Tryz.prog 177 (.nilFunc) := ⟨fun w => by kernel_rfl, fun w => by kernel_rfl, fun w => by kernel_rfl, rfl⟩
instance : Sc Tryz.prog 178 (.nilFunc) := ⟨fun w => by kernel_rfl, fun w => by kernel_rfl, fun w => by kernel_rfl, rfl⟩
instance : Sc Tryz.prog 179 (.nilFunc) := ⟨fun w => by kernel_rfl, fun w => by kernel_rfl, fun w => by kernel_rfl, rfl⟩
instance : Sc Tryz.prog 180 (.nilFunc) := ⟨fun w => by kernel_rfl, fun w => by kernel_rfl, fun w => by kernel_rfl, rfl⟩
instance : Sc Tryz.prog 181 (.nilFunc) := ⟨fun w => by kernel_rfl, fun w => by kernel_rfl, fun w => by kernel_rfl, rfl⟩
instance : Sc Tryz.prog 183 (.nilFunc) := ⟨fun w => by kernel_rfl, fun w => by kernel_rfl, fun w => by kernel_rfl, rfl⟩
instance : Sc Tryz.prog 184 (.nilFunc) := ⟨fun w => by kernel_rfl, fun w => by kernel_rfl, fun w => by kernel_rfl, rfl⟩
instance : Sc Tryz.prog 185 (.nilFunc) := ⟨fun w => by kernel_rfl, fun w => by kernel_rfl, fun w => by kernel_rfl, rfl⟩
instance : Sc Tryz.prog 186 (.nilFunc) := ⟨fun w => by kernel_rfl, fun w => by kernel_rfl, fun w => by kernel_rfl, rfl⟩
instance : Sc Tryz.prog 188 (.nilFunc) := ⟨fun w => by kernel_rfl, fun w => by kernel_rfl, fun w => by kernel_rfl, rfl⟩
instance : Sc Tryz.prog 189 (.nilFunc) := ⟨fun w => by kernel_rfl, fun w => by kernel_rfl, fun w => by kernel_rfl, rfl⟩
instance : Sc Tryz.prog 190 (.nilFunc) := ⟨fun w => by kernel_rfl, fun w => by kernel_rfl, fun w => by kernel_rfl, rfl⟩
instance : Sc Tryz.prog 191 (.nilFunc) := ⟨fun w => by kernel_rfl, fun w => by kernel_rfl, fun w => by kernel_rfl, rfl⟩
instance : Sc Tryz.prog 192 (.nilFunc) := ⟨fun w => by kernel_rfl, fun w => by kernel_rfl, fun w => by kernel_rfl, rfl⟩
instance : Sc Tryz.prog 194 (.nilFunc) := ⟨fun w => by kernel_rfl, fun w => by kernel_rfl, fun w => by kernel_rfl, rfl⟩
instance : Sc Tryz.prog 195 (.nilFunc) := ⟨fun w => by kernel_rfl, fun w => by kernel_rfl, fun w => by kernel_rfl, rfl⟩
instance : Sc Tryz.prog 196 (.pointer none) := ⟨fun w => by kernel_rfl, fun w => by kernel_rfl, fun w => by kernel_rfl, rfl⟩
instance : Sc Tryz.prog 197 (.nilFunc) := ⟨fun w => by kernel_rfl, fun w => by kernel_rfl, fun w => by kernel_rfl, rfl⟩
instance : Sc Tryz.prog 198 (.nilFunc) := ⟨fun w => by kernel_rfl, fun w => by kernel_rfl, fun w => by kernel_rfl, rfl⟩
instance : Sc Tryz.prog 199 (.nilFunc) := ⟨fun w => by kernel_rfl, fun w => by kernel_rfl, fun w => by kernel_rfl, rfl⟩
instance : Sc Tryz.prog 200 (.nilFunc) := ⟨fun w => by kernel_rfl, fun w => by kernel_rfl, fun w => by kernel_rfl, rfl⟩
instance : Sc Tryz.prog 201 (.nilFunc) := ⟨fun w => by kernel_rfl, fun w => by kernel_rfl, fun w => by kernel_rfl, rfl⟩
instance : Sc Tryz.prog 202 (.slice none 0 0) := ⟨fun w => by kernel_rfl, fun w => by kernel_rfl, fun w => by kernel_rfl, rfl⟩
instance : Slc Tryz.prog 202 205 2 16 [.int .i64 (0), .int .i64 (0)] := ⟨by kernel_rfl, fun w => by kernel_rfl, by kernel_rfl, rfl, by decide⟩
instance : Sc Tryz.prog 203 (.nilFunc) := ⟨fun w => by kernel_rfl, fun w => by kernel_rfl, fun w => by kernel_rfl, rfl⟩
instance : Ag Tryz.prog 204 2 [.int .i64 (0), .int .i64 (0)] := ⟨fun w => by kernel_rfl, fun w => by kernel_rfl, fun w => by kernel_rfl⟩
instance : Fld Tryz.prog 204 0 0 := ⟨fun a w => by kernel_rfl⟩
instance : Fld Tryz.prog 204 1 1 := ⟨fun a w => by kernel_rfl⟩
instance : Lay Tryz.prog 204 [(0, 1), (1, 1)] [.int .i64 (0), .int .i64 (0)] := ⟨fun w => by kernel_rfl, _, Tryz.underlying204, fun w => by kernel_rfl⟩
instance : Ag Tryz.prog 205 2 [.int .i64 (0), .int .i64 (0)] := ⟨fun w => by kernel_rfl, fun w => by kernel_rfl, fun w => by kernel_rfl⟩
instance : Fld Tryz.prog 205 0 0 := ⟨fun a w => by kernel_rfl⟩
instance : Fld Tryz.prog 205 1 1 := ⟨fun a w => by kernel_rfl⟩
instance : Lay Tryz.prog 205 [(0, 1), (1, 1)] [.int .i64 (0), .int .i64 (0)] := ⟨fun w => by kernel_rfl, _, Tryz.underlying205, fun w => by kernel_rfl⟩
instance : Sc Tryz.prog 206 (.nilFunc) := ⟨fun w => by kernel_rfl, fun w => by kernel_rfl, fun w => by kernel_rfl, rfl⟩
instance : Sc Tryz.prog 207 (.nilFunc) := ⟨fun w => by kernel_rfl, fun w => by kernel_rfl, fun w => by kernel_rfl, rfl⟩
instance : Sc Tryz.prog 208 (.pointer none) := ⟨fun w => by kernel_rfl, fun w => by kernel_rfl, fun w => by kernel_rfl, rfl⟩
instance : Sc Tryz.prog 209 (.pointer none) := ⟨fun w => by kernel_rfl, fun w => by kernel_rfl, fun w => by kernel_rfl, rfl⟩
instance : Sc Tryz.prog 210 (.nilFunc) := ⟨fun w => by kernel_rfl, fun w => by kernel_rfl, fun w => by kernel_rfl, rfl⟩
instance : Sc Tryz.prog 211 (.nilFunc) := ⟨fun w => by kernel_rfl, fun w => by kernel_rfl, fun w => by kernel_rfl, rfl⟩
instance : Sc Tryz.prog 212 (.slice none 0 0) := ⟨fun w => by kernel_rfl, fun w => by kernel_rfl, fun w => by kernel_rfl, rfl⟩
instance : Slc Tryz.prog 212 37 4 32 [.int .i64 (0), .int .i64 (0), .int .i64 (0), .int .u64 (0)] := ⟨by kernel_rfl, fun w => by kernel_rfl, by kernel_rfl, rfl, by decide⟩
instance : Sc Tryz.prog 213 (.nilFunc) := ⟨fun w => by kernel_rfl, fun w => by kernel_rfl, fun w => by kernel_rfl, rfl⟩
instance : Sc Tryz.prog 215 (.nilFunc) := ⟨fun w => by kernel_rfl, fun w => by kernel_rfl, fun w => by kernel_rfl, rfl⟩
instance : Sc Tryz.prog 216 (.nilFunc) := ⟨fun w => by kernel_rfl, fun w => by kernel_rfl, fun w => by kernel_rfl, rfl⟩
instance : Sc Tryz.prog 217 (.nilFunc) := ⟨fun w => by kernel_rfl, fun w => by kernel_rfl, fun w => by kernel_rfl, rfl⟩
instance : Sc Tryz.prog 218 (.nilFunc) := ⟨fun w => by kernel_rfl, fun w => by kernel_rfl, fun w => by kernel_rfl, rfl⟩
instance : Sc Tryz.prog 219 (.int .u64 (0)) := ⟨fun w => by kernel_rfl, fun w => by kernel_rfl, fun w => by kernel_rfl, rfl⟩
instance : IntT Tryz.prog 219 .u64 := ⟨by kernel_rfl⟩
instance : Sc Tryz.prog 220 (.nilFunc) := ⟨fun w => by kernel_rfl, fun w => by kernel_rfl, fun w => by kernel_rfl, rfl⟩
instance : Sc Tryz.prog 221 (.nilFunc) := ⟨fun w => by kernel_rfl, fun w => by kernel_rfl, fun w => by kernel_rfl, rfl⟩
instance : Sc Tryz.prog 222 (.pointer none) := ⟨fun w => by kernel_rfl, fun w => by kernel_rfl, fun w => by kernel_rfl, rfl⟩
instance : Sc Tryz.prog 223 (.nilFunc) := ⟨fun w => by kernel_rfl, fun w => by kernel_rfl, fun w => by kernel_rfl, rfl⟩
instance : Sc Tryz.prog 224 (.nilFunc) := ⟨fun w => by kernel_rfl, fun w => by kernel_rfl, fun w => by kernel_rfl, rfl⟩
instance : Sc Tryz.prog 225 (.nilFunc) := ⟨fun w => by kernel_rfl, fun w => by kernel_rfl, fun w => by kernel_rfl, rfl⟩
instance : Sc Tryz.prog 226 (.pointer none) := ⟨fun w => by kernel_rfl, fun w => by kernel_rfl, fun w => by kernel_rfl, rfl⟩
instance : Sc Tryz.prog 227 (.nilFunc) := ⟨fun w => by kernel_rfl, fun w => by kernel_rfl, fun w => by kernel_rfl, rfl⟩
instance : Sc Tryz.prog 228 (.nilFunc) := ⟨fun w => by kernel_rfl, fun w => by kernel_rfl, fun w => by kernel_rfl, rfl⟩
instance : Sc Tryz.prog 229 (.int .i64 (0)) := ⟨fun w => by kernel_rfl, fun w => by kernel_rfl, fun w => by kernel_rfl, rfl⟩
instance : IntT Tryz.prog 229 .i64 := ⟨by kernel_rfl⟩
instance : Sc Tryz.prog 231 (.nilFunc) := ⟨fun w => by kernel_rfl, fun w => by kernel_rfl, fun w => by kernel_rfl, rfl⟩
instance : Sc Tryz.prog 232 (.nilFunc) := ⟨fun w => by kernel_rfl, fun w => by kernel_rfl, fun w => by kernel_rfl, rfl⟩
instance : Sc Tryz.prog 233 (.nilFunc) := ⟨fun w => by kernel_rfl, fun w => by kernel_rfl, fun w => by kernel_rfl, rfl⟩
instance : Sc Tryz.prog 234 (.nilFunc) := ⟨fun w => by kernel_rfl, fun w => by kernel_rfl, fun w => by kernel_rfl, rfl⟩
instance : Sc Tryz.prog 235 (.nilFunc) := ⟨fun w => by kernel_rfl, fun w => by kernel_rfl, fun w => by kernel_rfl, rfl⟩
instance : Sc Tryz.prog 236 (.int .u32 (0)) := ⟨fun w => by kernel_rfl, fun w => by kernel_rfl, fun w => by kernel_rfl, rfl⟩
instance : IntT Tryz.prog 236 .u32 := ⟨by kernel_rfl⟩
instance : Sc Tryz.prog 237 (.nilFunc) := ⟨fun w => by kernel_rfl, fun w => by kernel_rfl, fun w => by kernel_rfl, rfl⟩
instance : Sc Tryz.prog 238 (.int .u64 (0)) := ⟨fun w => by kernel_rfl, fun w => by kernel_rfl, fun w => by kernel_rfl, rfl⟩
instance : IntT Tryz.prog 238 .u64 := ⟨by kernel_rfl⟩
instance : Sc Tryz.prog 239 (.nilFunc) := ⟨fun w => by kernel_rfl, fun w => by kernel_rfl, fun w => by kernel_rfl, rfl⟩
instance : Sc Tryz.prog 240 (.nilFunc) := ⟨fun w => by kernel_rfl, fun w => by kernel_rfl, fun w => by kernel_rfl, rfl⟩
instance : Sc Tryz.prog 241 (.nilFunc) := ⟨fun w => by kernel_rfl, fun w => by kernel_rfl, fun w => by kernel_rfl, rfl⟩
instance : Sc Tryz.prog 242 (.pointer none) := ⟨fun w => by kernel_rfl, fun w => by kernel_rfl, fun w => by kernel_rfl, rfl⟩
instance : Sc Tryz.prog 243 (.nilFunc) := ⟨fun w => by kernel_rfl, fun w => by kernel_rfl, fun w => by kernel_rfl, rfl⟩
instance : Sc Tryz.prog 244 (.pointer none) := ⟨fun w => by kernel_rfl, fun w => by kernel_rfl, fun w => by kernel_rfl, rfl⟩
instance : Sc Tryz.prog 245 (.pointer none) := ⟨fun w => by kernel_rfl, fun w => by kernel_rfl, fun w => by kernel_rfl, rfl⟩
instance : Sc Tryz.prog 247 (.nilFunc) := ⟨fun w => by kernel_rfl, fun w => by kernel_rfl, fun w => by kernel_rfl, rfl⟩
instance : Sc Tryz.prog 248 (.nilFunc) := ⟨fun w => by kernel_rfl, fun w => by kernel_rfl, fun w => by kernel_rfl, rfl⟩
instance : Sc Tryz.prog 257 (.pointer none) := ⟨fun w => by kernel_rfl, fun w => by kernel_rfl, fun w => by kernel_rfl, rfl⟩
instance : Sc Tryz.prog 262 (.nilFunc) := ⟨fun w => by kernel_rfl, fun w => by kernel_rfl, fun w => by kernel_rfl, rfl⟩
instance : Goes Tryz.prog 3 := ⟨_, Tryz.func3, by kernel_rfl, rfl⟩
instance : Goes Tryz.prog 4 := ⟨_, Tryz.func4, by kernel_rfl, rfl⟩
instance : Goes Tryz.prog 5 := ⟨_, Tryz.func5, by kernel_rfl, rfl⟩
instance : Goes Tryz.prog 6 := ⟨_, Tryz.func6, by kernel_rfl, rfl⟩
instance : Goes Tryz.prog 7 := ⟨_, Tryz.func7, by kernel_rfl, rfl⟩
instance : Goes Tryz.prog 8 := ⟨_, Tryz.func8, by kernel_rfl, rfl⟩
instance : Goes Tryz.prog 9 := ⟨_, Tryz.func9, by kernel_rfl, rfl⟩
instance : Goes Tryz.prog 10 := ⟨_, Tryz.func10, by kernel_rfl, rfl⟩
instance : Goes Tryz.prog 11 := ⟨_, Tryz.func11, by kernel_rfl, rfl⟩
instance : Goes Tryz.prog 12 := ⟨_, Tryz.func12, by kernel_rfl, rfl⟩
instance : Goes Tryz.prog 13 := ⟨_, Tryz.func13, by kernel_rfl, rfl⟩
instance : Goes Tryz.prog 14 := ⟨_, Tryz.func14, by kernel_rfl, rfl⟩
instance : Goes Tryz.prog 15 := ⟨_, Tryz.func15, by kernel_rfl, rfl⟩
instance : Goes Tryz.prog 16 := ⟨_, Tryz.func16, by kernel_rfl, rfl⟩
instance : Goes Tryz.prog 17 := ⟨_, Tryz.func17, by kernel_rfl, rfl⟩
instance : Goes Tryz.prog 18 := ⟨_, Tryz.func18, by kernel_rfl, rfl⟩
instance : Goes Tryz.prog 19 := ⟨_, Tryz.func19, by kernel_rfl, rfl⟩
instance : Goes Tryz.prog 20 := ⟨_, Tryz.func20, by kernel_rfl, rfl⟩
instance : Goes Tryz.prog 21 := ⟨_, Tryz.func21, by kernel_rfl, rfl⟩
instance : Goes Tryz.prog 22 := ⟨_, Tryz.func22, by kernel_rfl, rfl⟩
instance : Goes Tryz.prog 23 := ⟨_, Tryz.func23, by kernel_rfl, rfl⟩
instance : Goes Tryz.prog 24 := ⟨_, Tryz.func24, by kernel_rfl, rfl⟩
instance : Goes Tryz.prog 25 := ⟨_, Tryz.func25, by kernel_rfl, rfl⟩
instance : Goes Tryz.prog 26 := ⟨_, Tryz.func26, by kernel_rfl, rfl⟩
instance : Goes Tryz.prog 27 := ⟨_, Tryz.func27, by kernel_rfl, rfl⟩
instance : Goes Tryz.prog 28 := ⟨_, Tryz.func28, by kernel_rfl, rfl⟩
instance : Goes Tryz.prog 29 := ⟨_, Tryz.func29, by kernel_rfl, rfl⟩
instance : Goes Tryz.prog 30 := ⟨_, Tryz.func30, by kernel_rfl, rfl⟩
instance : Goes Tryz.prog 31 := ⟨_, Tryz.func31, by kernel_rfl, rfl⟩
instance : Goes Tryz.prog 32 := ⟨_, Tryz.func32, by kernel_rfl, rfl⟩
instance : Goes Tryz.prog 33 := ⟨_, Tryz.func33, by kernel_rfl, rfl⟩
instance : Goes Tryz.prog 34 := ⟨_, Tryz.func34, by kernel_rfl, rfl⟩
instance : Goes Tryz.prog 35 := ⟨_, Tryz.func35, by kernel_rfl, rfl⟩
instance : Goes Tryz.prog 36 := ⟨_, Tryz.func36, by kernel_rfl, rfl⟩
instance : Goes Tryz.prog 37 := ⟨_, Tryz.func37, by kernel_rfl, rfl⟩
instance : Goes Tryz.prog 38 := ⟨_, Tryz.func38, by kernel_rfl, rfl⟩
instance : Goes Tryz.prog 39 := ⟨_, Tryz.func39, by kernel_rfl, rfl⟩
instance : Goes Tryz.prog 40 := ⟨_, Tryz.func40, by kernel_rfl, rfl⟩
instance : Goes Tryz.prog 41 := ⟨_, Tryz.func41, by kernel_rfl, rfl⟩
instance : Goes Tryz.prog 42 := ⟨_, Tryz.func42, by kernel_rfl, rfl⟩
instance : Goes Tryz.prog 43 := ⟨_, Tryz.func43, by kernel_rfl, rfl⟩
instance : Goes Tryz.prog 44 := ⟨_, Tryz.func44, by kernel_rfl, rfl⟩
instance : Goes Tryz.prog 45 := ⟨_, Tryz.func45, by kernel_rfl, rfl⟩
instance : Goes Tryz.prog 46 := ⟨_, Tryz.func46, by kernel_rfl, rfl⟩
instance : Goes Tryz.prog 47 := ⟨_, Tryz.func47, by kernel_rfl, rfl⟩
instance : Goes Tryz.prog 48 := ⟨_, Tryz.func48, by kernel_rfl, rfl⟩
instance : Goes Tryz.prog 49 := ⟨_, Tryz.func49, by kernel_rfl, rfl⟩
instance : Goes Tryz.prog 50 := ⟨_, Tryz.func50, by kernel_rfl, rfl⟩
instance : Goes Tryz.prog 51 := ⟨_, Tryz.func51, by kernel_rfl, rfl⟩
instance : Goes Tryz.prog 52 := ⟨_, Tryz.func52, by kernel_rfl, rfl⟩
instance : Goes Tryz.prog 53 := ⟨_, Tryz.func53, by kernel_rfl, rfl⟩
instance : Goes Tryz.prog 54 := ⟨_, Tryz.func54, by kernel_rfl, rfl⟩
instance : Goes Tryz.prog 55 := ⟨_, Tryz.func55, by kernel_rfl, rfl⟩
instance : Goes Tryz.prog 56 := ⟨_, Tryz.func56, by kernel_rfl, rfl⟩
instance : Goes Tryz.prog 57 := ⟨_, Tryz.func57, by kernel_rfl, rfl⟩
instance : Goes Tryz.prog 58 := ⟨_, Tryz.func58, by kernel_rfl, rfl⟩
instance : Goes Tryz.prog 59 := ⟨_, Tryz.func59, by kernel_rfl, rfl⟩
instance : Goes Tryz.prog 60 := ⟨_, Tryz.func60, by kernel_rfl, rfl⟩
instance : Goes Tryz.prog 61 := ⟨_, Tryz.func61, by kernel_rfl, rfl⟩
instance : Goes Tryz.prog 62 := ⟨_, Tryz.func62, by kernel_rfl, rfl⟩
instance : Goes Tryz.prog 63 := ⟨_, Tryz.func63, by kernel_rfl, rfl⟩
instance : Goes Tryz.prog 64 := ⟨_, Tryz.func64, by kernel_rfl, rfl⟩
instance : Goes Tryz.prog 65 := ⟨_, Tryz.func65, by kernel_rfl, rfl⟩
instance : Goes Tryz.prog 66 := ⟨_, Tryz.func66, by kernel_rfl, rfl⟩
instance : Goes Tryz.prog 67 := ⟨_, Tryz.func67, by kernel_rfl, rfl⟩
instance : Goes Tryz.prog 68 := ⟨_, Tryz.func68, by kernel_rfl, rfl⟩
instance : Goes Tryz.prog 69 := ⟨_, Tryz.func69, by kernel_rfl, rfl⟩
instance : Goes Tryz.prog 70 := ⟨_, Tryz.func70, by kernel_rfl, rfl⟩
instance : Goes Tryz.prog 71 := ⟨_, Tryz.func71, by kernel_rfl, rfl⟩
instance : Goes Tryz.prog 72 := ⟨_, Tryz.func72, by kernel_rfl, rfl⟩
instance : Goes Tryz.prog 73 := ⟨_, Tryz.func73, by kernel_rfl, rfl⟩
instance : Goes Tryz.prog 74 := ⟨_, Tryz.func74, by kernel_rfl, rfl⟩
instance : Goes Tryz.prog 75 := ⟨_, Tryz.func75, by kernel_rfl, rfl⟩
instance : Goes Tryz.prog 76 := ⟨_, Tryz.func76, by kernel_rfl, rfl⟩
instance : Goes Tryz.prog 77 := ⟨_, Tryz.func77, by kernel_rfl, rfl⟩
instance : Goes Tryz.prog 78 := ⟨_, Tryz.func78, by kernel_rfl, rfl⟩
instance : Goes Tryz.prog 79 := ⟨_, Tryz.func79, by kernel_rfl, rfl⟩
instance : Goes Tryz.prog 80 := ⟨_, Tryz.func80, by kernel_rfl, rfl⟩
instance : Goes Tryz.prog 81 := ⟨_, Tryz.func81, by kernel_rfl, rfl⟩
instance : Goes Tryz.prog 82 := ⟨_, Tryz.func82, by kernel_rfl, rfl⟩
instance : Goes Tryz.prog 83 := ⟨_, Tryz.func83, by kernel_rfl, rfl⟩
instance : Goes Tryz.prog 84 := ⟨_, Tryz.func84, by kernel_rfl, rfl⟩
instance : Goes Tryz.prog 85 := ⟨_, Tryz.func85, by kernel_rfl, rfl⟩
instance : Goes Tryz.prog 86 := ⟨_, Tryz.func86, by kernel_rfl, rfl⟩
instance : Goes Tryz.prog 87 := ⟨_, Tryz.func87, by kernel_rfl, rfl⟩
instance : Goes Tryz.prog 88 := ⟨_, Tryz.func88, by kernel_rfl, rfl⟩
instance : Goes Tryz.prog 89 := ⟨_, Tryz.func89, by kernel_rfl, rfl⟩
instance : Goes Tryz.prog 90 := ⟨_, Tryz.func90, by kernel_rfl, rfl⟩
instance : Goes Tryz.prog 91 := ⟨_, Tryz.func91, by kernel_rfl, rfl⟩
instance : Goes Tryz.prog 92 := ⟨_, Tryz.func92, by kernel_rfl, rfl⟩
instance : Goes Tryz.prog 93 := ⟨_, Tryz.func93, by kernel_rfl, rfl⟩
instance : Goes Tryz.prog 94 := ⟨_, Tryz.func94, by kernel_rfl, rfl⟩
instance : Goes Tryz.prog 95 := ⟨_, Tryz.func95, by kernel_rfl, rfl⟩
instance : Goes Tryz.prog 96 := ⟨_, Tryz.func96, by kernel_rfl, rfl⟩
instance : Goes Tryz.prog 97 := ⟨_, Tryz.func97, by kernel_rfl, rfl⟩
instance : Goes Tryz.prog 98 := ⟨_, Tryz.func98, by kernel_rfl, rfl⟩
instance : Goes Tryz.prog 99 := ⟨_, Tryz.func99, by kernel_rfl, rfl⟩
instance : Goes Tryz.prog 100 := ⟨_, Tryz.func100, by kernel_rfl, rfl⟩
instance : Goes Tryz.prog 101 := ⟨_, Tryz.func101, by kernel_rfl, rfl⟩
instance : Goes Tryz.prog 102 := ⟨_, Tryz.func102, by kernel_rfl, rfl⟩
instance : Goes Tryz.prog 103 := ⟨_, Tryz.func103, by kernel_rfl, rfl⟩
instance : Goes Tryz.prog 104 := ⟨_, Tryz.func104, by kernel_rfl, rfl⟩
instance : Goes Tryz.prog 105 := ⟨_, Tryz.func105, by kernel_rfl, rfl⟩
instance : Goes Tryz.prog 106 := ⟨_, Tryz.func106, by kernel_rfl, rfl⟩
instance : Goes Tryz.prog 107 := ⟨_, Tryz.func107, by kernel_rfl, rfl⟩
instance : Goes Tryz.prog 108 := ⟨_, Tryz.func108, by kernel_rfl, rfl⟩
instance : Goes Tryz.prog 109 := ⟨_, Tryz.func109, by kernel_rfl, rfl⟩
instance : Goes Tryz.prog 110 := ⟨_, Tryz.func110, by kernel_rfl, rfl⟩
instance : Goes Tryz.prog 111 := ⟨_, Tryz.func111, by kernel_rfl, rfl⟩
instance : Goes Tryz.prog 112 := ⟨_, Tryz.func112, by kernel_rfl, rfl⟩
instance : Goes Tryz.prog 113 := ⟨_, Tryz.func113, by kernel_rfl, rfl⟩
instance : Goes Tryz.prog 114 := ⟨_, Tryz.func114, by kernel_rfl, rfl⟩
instance : Goes Tryz.prog 115 := ⟨_, Tryz.func115, by kernel_rfl, rfl⟩
instance : Goes Tryz.prog 116 := ⟨_, Tryz.func116, by kernel_rfl, rfl⟩
instance : Goes Tryz.prog 117 := ⟨_, Tryz.func117, by kernel_rfl, rfl⟩
instance : Goes Tryz.prog 118 := ⟨_, Tryz.func118, by kernel_rfl, rfl⟩
instance : Goes Tryz.prog 119 := ⟨_, Tryz.func119, by kernel_rfl, rfl⟩
instance : Goes Tryz.prog 120 := ⟨_, Tryz.func120, by kernel_rfl, rfl⟩
instance : Goes Tryz.prog 121 := ⟨_, Tryz.func121, by kernel_rfl, rfl⟩
instance : Goes Tryz.prog 122 := ⟨_, Tryz.func122, by kernel_rfl, rfl⟩
instance : Goes Tryz.prog 123 := ⟨_, Tryz.func123, by kernel_rfl, rfl⟩
instance : Goes Tryz.prog 124 := ⟨_, Tryz.func124, by kernel_rfl, rfl⟩
instance : Goes Tryz.prog 125 := ⟨_, Tryz.func125, by kernel_rfl, rfl⟩
instance : Goes Tryz.prog 126 := ⟨_, Tryz.func126, by kernel_rfl, rfl⟩
instance : Goes Tryz.prog 127 := ⟨_, Tryz.func127, by kernel_rfl, rfl⟩
instance : Goes Tryz.prog 128 := ⟨_, Tryz.func128, by kernel_rfl, rfl⟩
instance : Goes Tryz.prog 129 := ⟨_, Tryz.func129, by kernel_rfl, rfl⟩
instance : Goes Tryz.prog 130 := ⟨_, Tryz.func130, by kernel_rfl, rfl⟩
instance : Goes Tryz.prog 131 := ⟨_, Tryz.func131, by kernel_rfl, rfl⟩
instance : Goes Tryz.prog 132 := ⟨_, Tryz.func132, by kernel_rfl, rfl⟩
instance : Goes Tryz.prog 133 := ⟨_, Tryz.func133, by kernel_rfl, rfl⟩
instance : Goes Tryz.prog 135 := ⟨_, Tryz.func135, by kernel_rfl, rfl⟩
instance : Goes Tryz.prog 136 := ⟨_, Tryz.func136, by kernel_rfl, rfl⟩
instance : Goes Tryz.prog 137 := ⟨_, Tryz.func137, by kernel_rfl, rfl⟩
instance : Goes Tryz.prog 138 := ⟨_, Tryz.func138, by kernel_rfl, rfl⟩
instance : Goes Tryz.prog 139 := ⟨_, Tryz.func139, by kernel_rfl, rfl⟩
instance : Goes Tryz.prog 140 := ⟨_, Tryz.func140, by kernel_rfl, rfl⟩
instance : Goes Tryz.prog 141 := ⟨_, Tryz.func141, by kernel_rfl, rfl⟩
instance : Goes Tryz.prog 142 := ⟨_, Tryz.func142, by kernel_rfl, rfl⟩
instance : Goes Tryz.prog 143 := ⟨_, Tryz.func143, by kernel_rfl, rfl⟩
instance : Goes Tryz.prog 144 := ⟨_, Tryz.func144, by kernel_rfl, rfl⟩
instance : Goes Tryz.prog 145 := ⟨_, Tryz.func145, by kernel_rfl, rfl⟩
instance : Goes Tryz.prog 146 := ⟨_, Tryz.func146, by kernel_rfl, rfl⟩
instance : Goes Tryz.prog 147 := ⟨_, Tryz.func147, by kernel_rfl, rfl⟩
instance : Goes Tryz.prog 148 := ⟨_, Tryz.func148, by kernel_rfl, rfl⟩
instance : Goes Tryz.prog 149 := ⟨_, Tryz.func149, by kernel_rfl, rfl⟩
instance : Goes Tryz.prog 150 := ⟨_, Tryz.func150, by kernel_rfl, rfl⟩
instance : Goes Tryz.prog 151 := ⟨_, Tryz.func151, by kernel_rfl, rfl⟩
instance : Goes Tryz.prog 152 := ⟨_, Tryz.func152, by kernel_rfl, rfl⟩
instance : Goes Tryz.prog 153 := ⟨_, Tryz.func153, by kernel_rfl, rfl⟩
instance : Mixed Tryz.prog := ⟨by kernel_rfl⟩
end Go.Proofs.YtcelailgedndnaaGreatS
