/- The small logic: what is put behind a row that is wanted again: the row stays, as long as it is wanted, until something else is put behind it. -/
import Derived.Test.YtffhbdgoikkngaaSs
namespace Go.Proofs.YtffhbdgoikkngaaS
open Go.RowKit
set_option linter.unusedVariables false
set_option linter.unusedSimpArgs false
variable {P : Program} {n : Nat} {ops : Array Oper} {rest : List Oper} {e : Env} {H : HP} {Φ : Post} {d : Nat} {ty : TypeId} {ps : String} {af : Array Edge}
theorem Ent.dropL (A B : HP) : Ent (A * B) B := by rw [sep_comm]; exact Ent.dropR _ _
theorem ow_shrink {el sz m k cap : Nat} {a : Option Addr} {l news : List Value} (hl : l.length = m * sz) (hc : m ≤ cap) : Ent (ow el sz a (m + k) cap (l ++ news)) (ow el sz a m cap l) := fun w0 w F s => by
  obtain ⟨h1, h2, h3, h4⟩ := ow_cases s
  rcases h4 with ⟨hc0, sF⟩ | ⟨g, cur, rfl, hcur, ht, sg⟩
  · obtain ⟨r, hr, hm⟩ := sF.mem
    have hm0 : m = 0 := by omega
    refine ⟨s.os, s.tape, s.output, s.size, r, ⟨fun _ => none, r, fun _ => rfl, ⟨hl, hc, h3, .inl ⟨hc0, fun _ => rfl⟩⟩, hr⟩, hm⟩
  · refine ow_mk hl hc h3 hcur ?_ sg
    have e1 := congrArg (List.take (m * sz)) ht
    rw [List.take_take, Nat.min_eq_left (Nat.mul_le_mul_right _ (Nat.le_add_right _ _)), ← hl, List.take_left] at e1
    rw [← hl]; exact e1
theorem append_keep {st el sz bt : Nat} {z : List Value} [f : Slc P st el sz bt z] {a b : Option Addr} {m cap k ck : Nat} {l news : List Value} {R : HP} {ty : TypeId} (hrd : RdP R b news) (hl : news.length = k * sz) (h1 : ∀ u ∈ news, u.oneCell' = true)
    (hb : (m + k) * bt ≤ 140737488355328) (hk : m + k ≤ maxLen) {w0 w : World} {F : HP} (s : Sat w0 w (ow el sz a m cap l * (R * F))) :
    ∃ a' cap' w' K, (Builtin.append_ #[st, st] ty #[.slice a m cap, .slice b k ck]).run P w = .ok (.slice a' (m + k) cap') w' ∧ Sat w0 w' (K * F) ∧ m + k ≤ cap' ∧ RdC K a' (l ++ news) ∧ Ent K (ow el sz a m cap l * R) := by
  have sR := s.drop
  have hpos := f.pos
  obtain ⟨i, zv, hi, hbt, hsz, hz, hzc⟩ := f.info
  obtain ⟨hlen, hmc, hcm, hcase⟩ := ow_cases s
  have hlenA : (l ++ news).length = (m + k) * sz := by rw [List.length_append, hlen, hl, Nat.add_mul]
  have hm63 : m + k ≤ 9223372036854775807 := by simp only [maxLen] at hk; omega
  by_cases hk0 : k = 0
  · -- nothing is appended
    subst hk0
    have hn : news = [] := List.eq_nil_of_length_eq_zero (by simpa using hl)
    subst hn
    refine ⟨a, cap, w, ow el sz a m cap l * R, ?_, by rw [sep_assoc]; exact s, by omega, by rw [List.append_nil]; infer_instance, Ent.refl _⟩
    have hroom : m + 0 ≤ cap := by omega
    cases b with
    | none =>
      cases a with
      | none => simp [Builtin.append_, run_underlying f.und, f.size, Builtin.lenOf, hmc, Builtin.firstCells]
      | some a => simp [Builtin.append_, run_underlying f.und, f.size, Builtin.lenOf, hmc, Builtin.firstCells, storeCells]
    | some b =>
      cases a with
      | none => simp [Builtin.append_, run_underlying f.und, f.size, Builtin.lenOf, hmc, Builtin.firstCells, loadCells, loadCellsFrom]
      | some a => simp [Builtin.append_, run_underlying f.und, f.size, Builtin.lenOf, hmc, Builtin.firstCells, loadCells, loadCellsFrom, storeCells]
  · have hne : 0 < news.length := by rw [hl]; exact Nat.mul_pos (by omega) hpos
    obtain ⟨bd, rfl⟩ := (hrd.some hne sR)
    have hnews : ∀ j v, news[j]? = some v → w.cell? (bd.add j) = some v := fun j v hj => by
      obtain ⟨ad, ha, hc⟩ := hrd w0 w F sR j v hj
      cases ha; exact hc
    have hl' : news.length = k * i.size := by rw [hsz]; exact hl
    have grown : ∀ old, old < m + k →
        Sat w0 (w.drew.alloc (.cells (l.toArray ++ news.toArray ++ Builtin.zeroCells zv.cells (grownCap w (m + k) old el - (m + k))) el))
          (ow el sz (some ⟨w.heap.size, 0, none⟩) (m + k) (grownCap w (m + k) old el) (l ++ news) * (ow el sz a m cap l * (R * F))) := fun old ho => by
      have hge := grownCap_ge w (m + k) old el
      have hcm' := grownCap_le_maxLen w (m + k) old el hk
      have hzs : zv.cells.size = sz := by rw [hzc]; simpa using f.zsz
      have s1 := s.drew.alloc (.cells (l.toArray ++ news.toArray ++ Builtin.zeroCells zv.cells (grownCap w (m + k) old el - (m + k))) el)
      refine ow_mk (cur := (l.toArray ++ news.toArray ++ Builtin.zeroCells zv.cells (grownCap w (m + k) old el - (m + k))).toList) hlenA hge hcm' ?_ ?_ ?_
      · simp only [Array.length_toList, Array.size_append, List.size_toArray, size_zeroCells, hzs, hlen, hl, ← Nat.add_mul]
        congr 1
        omega
      · simp only [Array.toList_append]
        rw [← hlenA]
        exact List.take_left
      · unfold cl; rw [Array.toArray_toList]; exact s1
    rcases hcase with ⟨hc0, _⟩ | ⟨g, cur, rfl, hcur, htake, sg⟩
    · have hm0 : m = 0 := by omega
      subst hm0; subst hc0
      have hl0 : l = [] := List.eq_nil_of_length_eq_zero (by simpa using hlen)
      subst hl0
      cases a with
      | none =>
        have hr := run_append_nil (P := P) w st ty el i zv f.und hi hz bd k ck news hl' hnews (by omega) (by omega) (by rw [hbt]; simp only [Nat.zero_add] at hb; omega)
        have hg := grown 0 (by omega)
        simp only [Nat.zero_add, List.nil_append, Array.empty_append] at hg hr ⊢
        exact ⟨_, _, _, ow el sz (some ⟨w.heap.size, 0, none⟩) k (grownCap w k 0 el) news * (ow el sz none 0 0 [] * R), hr, by rw [sep_assoc, sep_assoc]; exact hg, grownCap_ge _ _ _ _, inferInstance, Ent.dropL _ _⟩
      | some a0 =>
        have hr := run_append_grow (P := P) w st ty el i zv f.und hi hz a0 0 0 [] (by simp) (by simp) bd k ck news hl' hnews (by omega) (by omega) (growslice_fits (by omega) (by rw [hbt]; exact hb))
        exact ⟨_, _, _, ow el sz (some ⟨w.heap.size, 0, none⟩) (0 + k) (grownCap w (0 + k) 0 el) ([] ++ news) * (ow el sz (some a0) 0 0 [] * R), hr, by rw [sep_assoc, sep_assoc]; exact grown 0 (by omega), grownCap_ge _ _ _ _, inferInstance, Ent.dropL _ _⟩
    · by_cases hroom : m + k ≤ cap
      · have hg0 : w.heap[g]? = some (.cells cur.toArray el (0, 0)) := sg.heapCl
        have hfit : m * i.size + news.length ≤ cur.toArray.size := by
          rw [hsz, hl]; simp only [List.size_toArray]; rw [hcur, ← Nat.add_mul]; exact Nat.mul_le_mul_right _ hroom
        have hr := run_append_room (P := P) w st ty el i f.und hi g m cap cur.toArray hg0 bd k ck news hl' hnews h1 hroom hfit
        have hc2 : (cur.take (m * i.size) ++ news ++ cur.drop (m * i.size + news.length)).length = cap * sz := by
          simp only [List.length_append, List.length_take, List.length_drop]
          simp only [List.size_toArray] at hfit
          omega
        have ht2 : (cur.take (m * i.size) ++ news ++ cur.drop (m * i.size + news.length)).take ((m + k) * sz) = l ++ news := by
          rw [hsz, htake, ← hlenA]
          exact List.take_left
        have hk2 := ow_mk hlenA hroom hcm hc2 ht2 (sg.setRow (l' := (cur.take (m * i.size) ++ news ++ cur.drop (m * i.size + news.length))))
        exact ⟨_, _, _, ow el sz (some ⟨g, 0, none⟩) (m + k) cap (l ++ news) * R, hr, by rw [sep_assoc]; exact hk2, hroom, inferInstance, (ow_shrink hlen (by omega)).frame R⟩
      · have holds : ∀ j u, l[j]? = some u → w.cell? ((⟨g, 0, none⟩ : Addr).add j) = some u := fun j u hj => by
          rw [add_none, cell_at sg.heapCl, Nat.zero_add]
          rw [← htake, List.getElem?_take] at hj
          split at hj
          · exact hj
          · cases hj
        have hr := run_append_grow (P := P) w st ty el i zv f.und hi hz ⟨g, 0, none⟩ m cap l (by rw [hsz]; exact hlen) holds bd k ck news hl' hnews (by omega) (by omega) (growslice_fits (by omega) (by rw [hbt]; exact hb))
        exact ⟨_, _, _, ow el sz (some ⟨w.heap.size, 0, none⟩) (m + k) (grownCap w (m + k) cap el) (l ++ news) * (ow el sz (some ⟨g, 0, none⟩) m cap l * R), hr, by rw [sep_assoc, sep_assoc]; exact grown cap (by omega), grownCap_ge _ _ _ _, inferInstance, Ent.dropL _ _⟩

theorem o_appendK {x y : Operand} {st el sz bt : Nat} {z : List Value} [f : Slc P st el sz bt z] {a b : Option Addr} {m cap k ck : Nat} {l news : List Value} {R : HP} {u : Array TypeId} (hd : d < n) (hx : ev e x = .slice a m cap) (hy : ev e y = .slice b k ck) (hu : u = #[st, st])
    [ho : HasO H el sz a m cap l R] [hrd : RdC R b news] (hl : news.length = k * sz) (h1 : ∀ v ∈ news, v.oneCell' = true) (hb : (m + k) * bt ≤ 140737488355328) (hk : m + k ≤ maxLen)
    (c : ∀ a' cap' K, m + k ≤ cap' → RdC K a' (l ++ news) → Ent K (ow el sz a m cap l * R) → Ops P n ops rest (put e d (.slice a' (m + k) cap')) K Φ) : Ops P n ops (⟨some d, .call ⟨.builtin .append, #[x, y], u⟩, ty, ps, af, none⟩ :: rest) e H Φ :=
  ops_step rfl hd fun w0 w F s => by
    subst hu
    have s1 := ho.ent _ _ _ s
    rw [sep_assoc] at s1
    obtain ⟨a', cap', w', K, hr, s', h2, h3, h4⟩ := append_keep (P := P) (st := st) (ck := ck) (ty := ty) hrd.rd hl h1 hb hk s1
    refine ⟨Next.value (.slice a' (m + k) cap'), w', K, ?_, c a' cap' K h2 h3 h4, s'⟩
    simp [execOp, resolve, invoke, builtin, hx, hy, hr]
end Go.Proofs.YtffhbdgoikkngaaS
