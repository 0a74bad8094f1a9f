/- The small logic: pieces of rows by their bounds, and regions whose order is drawn with rows made in them. -/
import Derived.Test.YtffhbdgoikkngaaSk
namespace Go.Proofs.YtffhbdgoikkngaaS
open Go.RowKit
set_option linter.unusedVariables false
set_option linter.unusedSimpArgs false
variable {P : Program} {n : Nat} {ops : Array Oper} {rest : List Oper} {e : Env} {H : HP} {Φ : Post} {d : Nat} {ty : TypeId} {ps : String} {af : Array Edge}
theorem run_slice {x : Operand} {a : Option Addr} {len cap st el sz bt : Nat} {z : List Value} {lo hi : Option Operand} {l h : Nat} [f : Slc P st el sz bt z] (hx : ev e x = .slice a len cap)
    (hh : match hi with | none => h = len | some y => ∃ k i, ev e y = .int k i ∧ 0 ≤ i ∧ i ≤ cap ∧ i.toNat = h) (hl : match lo with | none => l = 0 | some y => ∃ k i, ev e y = .int k i ∧ 0 ≤ i ∧ i ≤ h ∧ i.toNat = l) (w : World) :
    (execOp (ev e) ⟨some d, .slice st x lo hi none, ty, ps, af, none⟩).run P w = .ok (.value (.slice (if cap = l then a else a.map (·.add (l * sz))) (h - l) (cap - l))) w := by
  simp only [execOp, hx]
  have hb : (Instr.sliceBounds true len cap (lo.map (ev e)) (hi.map (ev e)) none).run P w = .ok (l, h, cap) w := by
    cases hi with
    | none =>
      subst hh
      cases lo with
      | none => subst hl; simp [Instr.sliceBounds]
      | some y => obtain ⟨k, i, h1, h2, h3, h4⟩ := hl; simp [Instr.sliceBounds, Instr.sliceBound, h1, asIntOf, h2, h3, h4]
    | some y0 =>
      obtain ⟨k0, i0, g1, g2, g3, g4⟩ := hh
      cases lo with
      | none => subst hl; simp [Instr.sliceBounds, Instr.sliceBound, g1, asIntOf, g2, g3, g4]
      | some y => obtain ⟨k, i, h1, h2, h3, h4⟩ := hl; simp [Instr.sliceBounds, Instr.sliceBound, g1, g2, g3, g4, h1, asIntOf, h2, h3, h4]
  simp [Instr.sliceAt, Instr.slice, run_underlying f.und, hb, f.size]
theorem read_slice {a : Option Addr} {cap sz l h : Nat} {cs : List Value} (hc : h ≤ cap) (H' : HP) [hr : RdC H' a cs] : RdC H' (if cap = l then a else a.map (·.add (l * sz))) ((cs.drop (l * sz)).take ((h - l) * sz)) := by
  refine ⟨?_⟩
  by_cases hcl : cap = l
  · have h0 : h - l = 0 := by omega
    rw [if_pos hcl, h0]
    simp only [Nat.zero_mul, List.take_zero]
    exact fun _ _ _ _ j v hj => by simp at hj
  · rw [if_neg hcl]
    have := hr.rd.cut (lo := l * sz) (hi := (h - l) * sz) false
    simpa using this
section
variable {k k2 : IntKind} {xs : List Int} {x y : Operand} {a : Option Addr} {cap st el bt t : Nat} {z : List Value}
theorem run_drop [f : Slc P st el 1 bt z] (hx : ev e x = .slice a xs.length cap) (hy : ev e y = .int k2 (t : Int)) (ht : t ≤ xs.length) (hc : xs.length ≤ cap) :
    ∃ a' ck, (∀ H' [RdC H' a (ints k xs)], RdC H' a' (ints k (xs.drop t))) ∧ ∀ w, (execOp (ev e) ⟨some d, .slice st x (some y) none none, ty, ps, af, none⟩).run P w = .ok (.value (.slice a' (xs.drop t).length ck)) w := by
  refine ⟨if cap = t then a else a.map (·.add (t * 1)), cap - t, fun H' hr => ?_, fun w => ?_⟩
  rotate_left
  · rw [run_slice (lo := some y) (hi := none) (l := t) (h := xs.length) (f := f) hx rfl ⟨_, _, hy, by omega, by omega, by omega⟩ w, List.length_drop]
  · have := read_slice (a := a) (cap := cap) (sz := 1) (l := t) (h := xs.length) (cs := ints k xs) hc H'
    have e1 : (List.drop (t * 1) (ints k xs)).take ((xs.length - t) * 1) = ints k (xs.drop t) := by
      rw [Nat.mul_one, Nat.mul_one, ← List.length_drop]; simp only [ints, ← List.map_drop]; rw [List.take_of_length_le (by simp)]
    rw [e1] at this; exact this
theorem run_take [f : Slc P st el 1 bt z] (hx : ev e x = .slice a xs.length cap) (hy : ev e y = .int k2 (t : Int)) (ht : t ≤ xs.length) (hc : xs.length ≤ cap) :
    ∃ a' ck, (∀ H' [RdC H' a (ints k xs)], RdC H' a' (ints k (xs.take t))) ∧ ∀ w, (execOp (ev e) ⟨some d, .slice st x none (some y) none, ty, ps, af, none⟩).run P w = .ok (.value (.slice a' (xs.take t).length ck)) w := by
  refine ⟨if cap = 0 then a else a.map (·.add (0 * 1)), cap - 0, fun H' hr => ?_, fun w => ?_⟩
  rotate_left
  · rw [run_slice (lo := none) (hi := some y) (l := 0) (h := t) (f := f) hx ⟨_, _, hy, by omega, by omega, by omega⟩ rfl w, List.length_take, Nat.min_eq_left ht, Nat.sub_zero]
  · have := read_slice (a := a) (cap := cap) (sz := 1) (l := 0) (h := t) (cs := ints k xs) (by omega) H'
    have e1 : (List.drop (0 * 1) (ints k xs)).take ((t - 0) * 1) = ints k (xs.take t) := by
      simp [ints]
    rw [e1] at this; exact this
theorem o_drop [f : Slc P st el 1 bt z] (hd : d < n) (hx : ev e x = .slice a xs.length cap) (hy : ev e y = .int k2 (t : Int)) (ht : t ≤ xs.length) (hc : xs.length ≤ cap)
    (c : ∀ a' ck, (∀ H' [RdC H' a (ints k xs)], RdC H' a' (ints k (xs.drop t))) → Ops P n ops rest (put e d (.slice a' (xs.drop t).length ck)) H Φ) : Ops P n ops (⟨some d, .slice st x (some y) none none, ty, ps, af, none⟩ :: rest) e H Φ := by
  obtain ⟨a', ck, hr, h⟩ := run_drop (P := P) (f := f) (d := d) (ty := ty) (ps := ps) (af := af) (k := k) hx hy ht hc
  exact o_rfl hd h (c a' ck hr)
theorem o_take [f : Slc P st el 1 bt z] (hd : d < n) (hx : ev e x = .slice a xs.length cap) (hy : ev e y = .int k2 (t : Int)) (ht : t ≤ xs.length) (hc : xs.length ≤ cap)
    (c : ∀ a' ck, (∀ H' [RdC H' a (ints k xs)], RdC H' a' (ints k (xs.take t))) → Ops P n ops rest (put e d (.slice a' (xs.take t).length ck)) H Φ) : Ops P n ops (⟨some d, .slice st x none (some y) none, ty, ps, af, none⟩ :: rest) e H Φ := by
  obtain ⟨a', ck, hr, h⟩ := run_take (P := P) (f := f) (d := d) (ty := ty) (ps := ps) (af := af) (k := k) hx hy ht hc
  exact o_rfl hd h (c a' ck hr)
section
variable {K : Env → HP → Prop} {fuel : Nat} {listed : Array Bool}
theorem oa_mv (i : Nat) {v : Value} (hi : ops[i]? = some ⟨some d, .move x, ty, ps, af, none⟩) (hns : Region.noSelect ops = true) (hfree : Region.free .any ops listed i = true) (hready : (Region.ready .any ops listed).contains i = true) (hd : d < n) (hx : ev e x = v)
    (c : OA P n ops fuel (listed.setIfInBounds i true) (put e d v) H K) : OA P n ops (fuel + 1) listed e H K := oa_first i hi hns hfree hready hd (fun _ => by simp only [execOp, hx]; rfl) c
theorem oa_drop (i : Nat) [f : Slc P st el 1 bt z] (hi : ops[i]? = some ⟨some d, .slice st x (some y) none none, ty, ps, af, none⟩) (hns : Region.noSelect ops = true) (hfree : Region.free .any ops listed i = true) (hready : (Region.ready .any ops listed).contains i = true) (hd : d < n)
    (hx : ev e x = .slice a xs.length cap) (hy : ev e y = .int k2 (t : Int)) (ht : t ≤ xs.length) (hc : xs.length ≤ cap)
    (c : ∀ a' ck, (∀ H' [RdC H' a (ints k xs)], RdC H' a' (ints k (xs.drop t))) → OA P n ops fuel (listed.setIfInBounds i true) (put e d (.slice a' (xs.drop t).length ck)) H K) : OA P n ops (fuel + 1) listed e H K := by
  obtain ⟨a', ck, hr, h⟩ := run_drop (P := P) (f := f) (d := d) (ty := ty) (ps := ps) (af := af) (k := k) hx hy ht hc
  exact oa_first i hi hns hfree hready hd h (c a' ck hr)
theorem oa_take (i : Nat) [f : Slc P st el 1 bt z] (hi : ops[i]? = some ⟨some d, .slice st x none (some y) none, ty, ps, af, none⟩) (hns : Region.noSelect ops = true) (hfree : Region.free .any ops listed i = true) (hready : (Region.ready .any ops listed).contains i = true) (hd : d < n)
    (hx : ev e x = .slice a xs.length cap) (hy : ev e y = .int k2 (t : Int)) (ht : t ≤ xs.length) (hc : xs.length ≤ cap)
    (c : ∀ a' ck, (∀ H' [RdC H' a (ints k xs)], RdC H' a' (ints k (xs.take t))) → OA P n ops fuel (listed.setIfInBounds i true) (put e d (.slice a' (xs.take t).length ck)) H K) : OA P n ops (fuel + 1) listed e H K := by
  obtain ⟨a', ck, hr, h⟩ := run_take (P := P) (f := f) (d := d) (ty := ty) (ps := ps) (af := af) (k := k) hx hy ht hc
  exact oa_first i hi hns hfree hready hd h (c a' ck hr)
end
end
theorem ex_anyk {id : Nat} {l : List Oper} {ts : List Nat} [m : Mixed P] {k : Nat} (hk : l.length = k) (h : OA P n l.toArray k (Array.replicate k false) e H (fun e' H' => keepP ts Φ .normal e' H')) : Ex P n (.region id l.toArray true) e H Φ := keep_mono (ex_any hk h)
theorem oa_donek {ts : List Nat} {listed : Array Bool} (hr : Region.ready .any ops listed = []) (h : ∀ g, keepN ts e g (fun e' => Φ .normal e' H)) : OA P n ops 0 listed e H (fun e' H' => keepP ts Φ .normal e' H') := oa_done hr ⟨rfl, h⟩
theorem oa_nil {K : Env → HP → Prop} {fuel : Nat} {listed : Array Bool} (h : OA P n ops fuel listed e H K) : Ops P n ops [] e H (fun x e' H' => x = .normal ∧ OA P n ops fuel listed e' H' K) := ops_nil ⟨rfl, h⟩
theorem Ex.ow_cap {el sz : Nat} {a : Option Addr} {m cap : Nat} {l : List Value} {R : HP} [ho : HasO H el sz a m cap l R] {c : Code} (k : m ≤ cap → Ex P n c e H Φ) : Ex P n c e H Φ := fun x w0 w F r s => by
  have s1 := ho.ent _ _ _ s
  rw [sep_assoc] at s1
  exact k (ow_cases s1).2.1 x w0 w F r s
end Go.Proofs.YtffhbdgoikkngaaS
