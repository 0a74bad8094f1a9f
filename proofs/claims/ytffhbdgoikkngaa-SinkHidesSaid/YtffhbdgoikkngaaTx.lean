/- The small logic: rows that are owned in a block that may be longer than their room (what 'xs[:n:n]' leaves); blocks that are given up to reading. -/
import Derived.Test.YtffhbdgoikkngaaTe
import Derived.Test.YtffhbdgoikkngaaSt
namespace Go.Proofs.YtffhbdgoikkngaaS
open Go.RowKit
set_option linter.unusedVariables false
set_option linter.unusedSimpArgs false
variable {P : Program} {n : Nat} {ops : Array Oper} {rest : List Oper} {e : Env} {H : HP} {Φ : Post} {d : Nat} {ty : TypeId} {ps : String} {af : Array Edge}
def ox (el sz : Nat) (a : Option Addr) (m cap : Nat) (l : List Value) : HP := fun h => l.length = m * sz ∧ m ≤ cap ∧ cap ≤ maxLen ∧
  ((cap = 0 ∧ ∀ b, h b = none) ∨ ∃ g cur, a = some ⟨g, 0, none⟩ ∧ cap * sz ≤ cur.length ∧ cur.take (m * sz) = l ∧ cl true g cur el (0, 0) h)
class HasX (H : HP) (el sz : Nat) (a : Option Addr) (m cap : Nat) (l : outParam (List Value)) (R : outParam HP) : Prop where ent : Ent H (ox el sz a m cap l * R)
instance (priority := 1000) hasX_h (el sz a m cap l R) : HasX (ox el sz a m cap l * R) el sz a m cap l R := ⟨Ent.refl _⟩
instance (priority := 900) hasX_1 (el sz a m cap l) : HasX (ox el sz a m cap l) el sz a m cap l 1 := ⟨Ent.ofEq (sep_one _).symm⟩
instance (priority := 500) hasX_t (A H el sz a m cap l R) [h : HasX H el sz a m cap l R] : HasX (A * H) el sz a m cap l (A * R) := ⟨by
  have := h.ent.frameL A
  rw [sep_left_comm] at this
  exact this⟩
theorem ox_of (el sz a m cap l) : Ent (ow el sz a m cap l) (ox el sz a m cap l) := fun w0 w F s => by
  obtain ⟨r, ⟨r1, r2, hj, ⟨h1, h2, h3, h4⟩, hf⟩, hm⟩ := s.mem
  refine ⟨s.os, s.tape, s.output, s.size, r, ⟨r1, r2, hj, ⟨h1, h2, h3, ?_⟩, hf⟩, hm⟩
  rcases h4 with h4 | ⟨g, cur, ha, hc, ht, hb⟩
  · exact .inl h4
  · exact .inr ⟨g, cur, ha, Nat.le_of_eq hc.symm, ht, hb⟩
theorem rd_ox (el sz a m cap l) : RdP (ox el sz a m cap l) a l := fun w0 w F s j v hj => by
  obtain ⟨r, hr, hm⟩ := s.dropR.mem
  obtain ⟨h1, h2, h3, h4 | ⟨g, cur, ha, hc, ht, hb⟩⟩ := hr
  · have hm0 : m = 0 := by omega
    have : l = [] := List.eq_nil_of_length_eq_zero (by rw [h1, hm0]; simp)
    rw [this] at hj; simp at hj
  · refine ⟨_, ha, ?_⟩
    have hb' : r = fun c => if c = g then some (true, .cells cur.toArray el (0, 0)) else none := hb
    have := hm g true (.cells cur.toArray el (0, 0)) (by rw [hb']; simp)
    rw [add_none, cell_at this, Nat.zero_add]
    rw [← ht, List.getElem?_take] at hj
    split at hj
    · exact hj
    · cases hj
instance (priority := 1000) rdc_ox (el sz a m cap l R) : RdC (ox el sz a m cap l * R) a l := ⟨(rd_ox el sz a m cap l).left R⟩
instance (priority := 900) rdc_ox1 (el sz a m cap l) : RdC (ox el sz a m cap l) a l := ⟨rd_ox el sz a m cap l⟩
theorem ox_cases {w0 w : World} {F : HP} {el sz a m cap l} (s : Sat w0 w (ox el sz a m cap l * F)) :
    l.length = m * sz ∧ m ≤ cap ∧ cap ≤ maxLen ∧ ((cap = 0 ∧ Sat w0 w F) ∨ ∃ g cur, a = some ⟨g, 0, none⟩ ∧ cap * sz ≤ cur.length ∧ cur.take (m * sz) = l ∧ Sat w0 w (cl true g cur el (0, 0) * F)) := by
  have hd := s.drop
  obtain ⟨r, ⟨r1, r2, hj, ⟨h1, h2, h3, h4⟩, hf⟩, hm⟩ := s.mem
  refine ⟨h1, h2, h3, ?_⟩
  rcases h4 with h4 | ⟨g, cur, ha, hc, ht, hb⟩
  · exact .inl ⟨h4.1, hd⟩
  · exact .inr ⟨g, cur, ha, hc, ht, s.os, s.tape, s.output, s.size, r, ⟨r1, r2, hj, hb, hf⟩, hm⟩
theorem ox_mk {w0 w : World} {F : HP} {el sz m cap : Nat} {l : List Value} {g : Nat} {cur : List Value} (h1 : l.length = m * sz) (h2 : m ≤ cap) (h3 : cap ≤ maxLen) (hc : cap * sz ≤ cur.length) (ht : cur.take (m * sz) = l)
    (s : Sat w0 w (cl true g cur el (0, 0) * F)) : Sat w0 w (ox el sz (some ⟨g, 0, none⟩) m cap l * F) := by
  obtain ⟨r, ⟨r1, r2, hj, hb, hf⟩, hm⟩ := s.mem
  exact ⟨s.os, s.tape, s.output, s.size, r, ⟨r1, r2, hj, ⟨h1, h2, h3, .inr ⟨g, cur, rfl, hc, ht, hb⟩⟩, hf⟩, hm⟩
/-- A row's beginning, with no room behind it. -/
theorem ox_cut {el sz m k cap : Nat} {a : Option Addr} {l l' : List Value} (hk : k ≤ m) (hl : l' = l.take (k * sz)) : Ent (ox el sz a m cap l) (ox el sz a k k l') := fun w0 w F s => by
  obtain ⟨h1, h2, h3, h4⟩ := ox_cases s
  have hl' : l'.length = k * sz := by rw [hl, List.length_take, h1]; exact Nat.min_eq_left (Nat.mul_le_mul_right _ hk)
  rcases h4 with ⟨hc0, sF⟩ | ⟨g, cur, rfl, hcur, ht, sg⟩
  · obtain ⟨r, hr, hm⟩ := sF.mem
    have hk0 : k = 0 := by omega
    exact ⟨s.os, s.tape, s.output, s.size, r, ⟨fun _ => none, r, fun _ => rfl, ⟨hl', Nat.le_refl _, by omega, .inl ⟨hk0, fun _ => rfl⟩⟩, hr⟩, hm⟩
  · refine ox_mk hl' (Nat.le_refl _) (by omega) (Nat.le_trans (Nat.mul_le_mul_right _ (by omega)) hcur) ?_ sg
    rw [hl, ← ht, List.take_take, Nat.min_eq_left (Nat.mul_le_mul_right _ hk)]
theorem appendX_spec {st el sz bt : Nat} {z : List Value} [f : Slc P st el sz bt z] {a b : Option Addr} {m cap k ck : Nat} {l news : List Value} {R : HP} {ty : TypeId} (hrd : RdP R b news) (hl : news.length = k * sz) (h1 : ∀ u ∈ news, u.oneCell' = true)
    (hb : (m + k) * bt ≤ 140737488355328) (hk : m + k ≤ maxLen) {w0 w : World} {F : HP} (s : Sat w0 w (ox el sz a m cap l * (R * F))) :
    ∃ a' cap' w', (Builtin.append_ #[st, st] ty #[.slice a m cap, .slice b k ck]).run P w = .ok (.slice a' (m + k) cap') w' ∧ Sat w0 w' (ox el sz a' (m + k) cap' (l ++ news) * (R * F)) := by
  have sR := s.drop
  have hpos := f.pos
  obtain ⟨i, zv, hi, hbt, hsz, hz, hzc⟩ := f.info
  obtain ⟨hlen, hmc, hcm, hcase⟩ := ox_cases s
  have hlenA : (l ++ news).length = (m + k) * sz := by rw [List.length_append, hlen, hl, Nat.add_mul]
  have hm63 : m + k ≤ 9223372036854775807 := by simp only [maxLen] at hk; omega
  by_cases hk0 : k = 0
  · subst hk0
    have hn : news = [] := List.eq_nil_of_length_eq_zero (by simpa using hl)
    subst hn
    refine ⟨a, cap, w, ?_, by simpa using s⟩
    have hroom : m + 0 ≤ cap := by omega
    cases b with
    | none =>
      cases a with
      | none => simp [Builtin.append_, run_underlying f.und, f.size, Builtin.lenOf, hmc, Builtin.firstCells]
      | some a => simp [Builtin.append_, run_underlying f.und, f.size, Builtin.lenOf, hmc, Builtin.firstCells, storeCells]
    | some b =>
      cases a with
      | none => simp [Builtin.append_, run_underlying f.und, f.size, Builtin.lenOf, hmc, Builtin.firstCells, loadCells, loadCellsFrom]
      | some a => simp [Builtin.append_, run_underlying f.und, f.size, Builtin.lenOf, hmc, Builtin.firstCells, loadCells, loadCellsFrom, storeCells]
  · have hne : 0 < news.length := by rw [hl]; exact Nat.mul_pos (by omega) hpos
    obtain ⟨bd, rfl⟩ := (hrd.some hne sR)
    have hnews : ∀ j v, news[j]? = some v → w.cell? (bd.add j) = some v := fun j v hj => by
      obtain ⟨ad, ha, hc⟩ := hrd w0 w F sR j v hj
      cases ha; exact hc
    have hl' : news.length = k * i.size := by rw [hsz]; exact hl
    have grown : ∀ old, old < m + k →
        Sat w0 (w.drew.alloc (.cells (l.toArray ++ news.toArray ++ Builtin.zeroCells zv.cells (grownCap w (m + k) old el - (m + k))) el))
          (ox el sz (some ⟨w.heap.size, 0, none⟩) (m + k) (grownCap w (m + k) old el) (l ++ news) * (R * F)) := fun old ho => by
      have hge := grownCap_ge w (m + k) old el
      have hcm' := grownCap_le_maxLen w (m + k) old el hk
      have hzs : zv.cells.size = sz := by rw [hzc]; simpa using f.zsz
      have s1 := sR.drew.alloc (.cells (l.toArray ++ news.toArray ++ Builtin.zeroCells zv.cells (grownCap w (m + k) old el - (m + k))) el)
      refine ox_mk (cur := (l.toArray ++ news.toArray ++ Builtin.zeroCells zv.cells (grownCap w (m + k) old el - (m + k))).toList) hlenA hge hcm' ?_ ?_ ?_
      · simp only [Array.length_toList, Array.size_append, List.size_toArray, size_zeroCells, hzs, hlen, hl, ← Nat.add_mul]
        exact Nat.mul_le_mul_right _ (by omega)
      · simp only [Array.toList_append]
        rw [← hlenA]
        exact List.take_left
      · unfold cl; rw [Array.toArray_toList]; exact s1
    rcases hcase with ⟨hc0, _⟩ | ⟨g, cur, rfl, hcur, htake, sg⟩
    · have hm0 : m = 0 := by omega
      subst hm0; subst hc0
      have hl0 : l = [] := List.eq_nil_of_length_eq_zero (by simpa using hlen)
      subst hl0
      cases a with
      | none =>
        have hr := run_append_nil (P := P) w st ty el i zv f.und hi hz bd k ck news hl' hnews (by omega) (by omega) (by rw [hbt]; simp only [Nat.zero_add] at hb; omega)
        have hg := grown 0 (by omega)
        simp only [Nat.zero_add, List.nil_append, Array.empty_append] at hg hr ⊢
        exact ⟨_, _, _, hr, hg⟩
      | some a0 =>
        have hr := run_append_grow (P := P) w st ty el i zv f.und hi hz a0 0 0 [] (by simp) (by simp) bd k ck news hl' hnews (by omega) (by omega) (growslice_fits (by omega) (by rw [hbt]; exact hb))
        exact ⟨_, _, _, hr, grown 0 (by omega)⟩
    · by_cases hroom : m + k ≤ cap
      · have hg0 : w.heap[g]? = some (.cells cur.toArray el (0, 0)) := sg.heapCl
        have hfit : m * i.size + news.length ≤ cur.toArray.size := by
          rw [hsz, hl]; simp only [List.size_toArray]; rw [← Nat.add_mul]; exact Nat.le_trans (Nat.mul_le_mul_right _ hroom) hcur
        have hr := run_append_room (P := P) w st ty el i f.und hi g m cap cur.toArray hg0 bd k ck news hl' hnews h1 hroom hfit
        refine ⟨_, _, _, hr, ox_mk hlenA hroom hcm ?_ ?_ (sg.setRow (l' := cur.take (m * i.size) ++ news ++ cur.drop (m * i.size + news.length)))⟩
        · simp only [List.length_append, List.length_take, List.length_drop]
          simp only [List.size_toArray] at hfit
          omega
        · rw [hsz, htake, ← hlenA]
          exact List.take_left
      · have holds : ∀ j u, l[j]? = some u → w.cell? ((⟨g, 0, none⟩ : Addr).add j) = some u := fun j u hj => by
          rw [add_none, cell_at sg.heapCl, Nat.zero_add]
          rw [← htake, List.getElem?_take] at hj
          split at hj
          · exact hj
          · cases hj
        have hr := run_append_grow (P := P) w st ty el i zv f.und hi hz ⟨g, 0, none⟩ m cap l (by rw [hsz]; exact hlen) holds bd k ck news hl' hnews (by omega) (by omega) (growslice_fits (by omega) (by rw [hbt]; exact hb))
        exact ⟨_, _, _, hr, grown cap (by omega)⟩
theorem o_appendX {α : Type} {cells : α → List Value} {xs ys : List α} {x y : Operand} {a b : Option Addr} {cap st el sz bt ck : Nat} {z : List Value} (hc0 : ∀ x, (cells x).length = sz) (h1c : ∀ x, ∀ v ∈ cells x, v.oneCell' = true) [f : Slc P st el sz bt z] {l news : List Value} {R : HP} {u : Array TypeId} (hd : d < n) (hx : ev e x = .slice a xs.length cap) (hy : ev e y = .slice b ys.length ck) (hu : u = #[st, st])
    [ho : HasX H el sz a xs.length cap l R] [hrd : RdC R b news] (h0 : l = xs.flatMap cells) (hn : news = ys.flatMap cells) (hb : (xs.length + ys.length) * bt ≤ 140737488355328) (hk : xs.length + ys.length ≤ maxLen)
    (c : ∀ a' cap', (xs ++ ys).length ≤ cap' → Ops P n ops rest (put e d (.slice a' (xs ++ ys).length cap')) (ox el sz a' (xs ++ ys).length cap' ((xs ++ ys).flatMap cells) * R) Φ) : Ops P n ops (⟨some d, .call ⟨.builtin .append, #[x, y], u⟩, ty, ps, af, none⟩ :: rest) e H Φ :=
  ops_step rfl hd fun w0 w F s => by
    subst hu; subst h0; subst hn
    have s1 := ho.ent _ _ _ s
    rw [sep_assoc] at s1
    obtain ⟨a', cap', w', hr, s'⟩ := appendX_spec (P := P) (st := st) (ck := ck) (ty := ty) hrd.rd (flat_len hc0 ys) (fun v hv => by
      obtain ⟨q, _, hq⟩ := List.mem_flatMap.1 hv
      exact h1c q v hq) hb hk s1
    have h2 := (ox_cases s').2.1
    have := c a' cap' (by simpa using h2)
    rw [List.length_append, List.flatMap_append] at this
    refine ⟨Next.value (.slice a' (xs.length + ys.length) cap'), w', _, ?_, this, by rw [sep_assoc]; exact s'⟩
    simp [execOp, resolve, invoke, builtin, hx, hy, hr]
/-- What is owned is given up to reading: from then on it may be had as often as is wanted. -/
theorem fz {p : Bool} {b : Nat} {l : List Value} {t : TypeId} {fr : Nat × Nat} : Ent (cl p b l t fr) (rs (some ⟨b, 0, none⟩) l) := fun w0 w F s => by
  obtain ⟨r, ⟨r1, r2, hj, hb, hf⟩, hm⟩ := s.mem
  have hr1 : r1 = fun c => if c = b then some (p, .cells l.toArray t fr) else none := hb
  have hread : ∀ w : World, (∀ b' p' o, (fun c => if c = b then some (false, Obj.cells l.toArray t fr) else none : Res) b' = some (p', o) → w.heap[b']? = some o) → ∀ j v, l[j]? = some v → ∃ ad, some (⟨b, 0, none⟩ : Addr) = some ad ∧ w.cell? (ad.add j) = some v := fun w hw j v hv =>
    ⟨_, rfl, by rw [add_none, cell_at (hw b false (Obj.cells l.toArray t fr) (by simp)), Nat.zero_add, hv]⟩
  cases p with
  | false =>
    refine ⟨s.os, s.tape, s.output, s.size, r, ⟨r1, r2, hj, ⟨fun b' x hx => ?_, ?_⟩, hf⟩, hm⟩
    · rw [hr1] at hx; by_cases e : b' = b
      · subst e; simp at hx; rw [← hx]
      · simp only [if_neg e] at hx; cases hx
    · rw [hr1]; exact hread
  | true =>
    have hn : r2 b = none := by
      have := hj b
      rw [hr1] at this; simp only [if_true] at this
      cases h2 : r2 b with
      | none => rfl
      | some v => rw [h2] at this; exact absurd this.1 (by simp)
    have hrb : r b = some (true, .cells l.toArray t fr) := by
      have := hj b
      rw [hr1, hn] at this; simp only [if_true] at this; exact this
    refine ⟨s.os, s.tape, s.output, s.size, fun c => if c = b then some (false, .cells l.toArray t fr) else r c, ⟨fun c => if c = b then some (false, .cells l.toArray t fr) else none, r2, fun c => ?_, ⟨fun b' x hx => ?_, hread⟩, hf⟩, fun c q o hc => ?_⟩
    · by_cases e : c = b
      · subst e; simp only [if_true]; rw [hn]; exact rfl
      · have := hj c
        rw [hr1] at this; simp only [if_neg e] at this ⊢; exact this
    · by_cases e : b' = b
      · subst e; simp at hx; rw [← hx]
      · simp only [if_neg e] at hx; cases hx
    · by_cases e : c = b
      · subst e; simp at hc; obtain ⟨_, rfl⟩ := hc; exact hm c true _ hrb
      · simp only [if_neg e] at hc; exact hm c q o hc
theorem rs_short {a : Option Addr} {l : List Value} (k : Nat) : Ent (rs a l) (rs a (l.take k)) := fun w0 w F s => by
  obtain ⟨r, ⟨r1, r2, hj, ⟨h1, h2⟩, hf⟩, hm⟩ := s.mem
  refine ⟨s.os, s.tape, s.output, s.size, r, ⟨r1, r2, hj, ⟨h1, fun w hw j v hv => h2 w hw j v ?_⟩, hf⟩, hm⟩
  rw [List.getElem?_take] at hv
  split at hv
  · exact hv
  · cases hv
theorem rs_empty (a : Option Addr) (A : HP) : Ent A (rs a [] * A) := fun w0 w F s => by
  obtain ⟨r, hr, hm⟩ := s.mem
  rw [sep_assoc]
  exact ⟨s.os, s.tape, s.output, s.size, r, ⟨fun _ => none, r, fun _ => rfl, ⟨(fun b x h => nomatch h), (fun w hw j v hj => by simp at hj)⟩, hr⟩, hm⟩
theorem fz_ow {el sz m cap : Nat} {a : Option Addr} {l : List Value} : Ent (ow el sz a m cap l) (rs a l) := fun w0 w F s => by
  obtain ⟨h1, h2, h3, h4 | ⟨g, cur, rfl, hc, ht, sg⟩⟩ := ow_cases s
  · have hl : l = [] := List.eq_nil_of_length_eq_zero (by rw [h1, show m = 0 by omega]; simp)
    subst hl
    exact rs_empty a F _ _ 1 (by rw [sep_one]; exact h4.2) |> fun h => by rw [sep_one] at h; exact h
  · rw [← ht]
    exact rs_short _ _ _ _ (fz _ _ _ sg)
end Go.Proofs.YtffhbdgoikkngaaS
