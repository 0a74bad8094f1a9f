/- The small logic: parts of a row in a region whose order is drawn, taken first. -/
import Derived.Test.YtffhbdgoikkngaaTa
namespace Go.Proofs.YtffhbdgoikkngaaS
open Go.RowKit
set_option linter.unusedVariables false
variable {P : Program} {n : Nat} {ops : Array Oper} {rest : List Oper} {e : Env} {H A : HP} {Φ : Post} {d : Nat} {ty : TypeId} {ps : String} {af : Array Edge}
variable {K : Env → HP → Prop} {fuel : Nat} {listed : Array Bool} {α : Type} {cells : α → List Value} {sz : Nat} {x y q : Operand} {a : Option Addr} {cap st el bt t : Nat} {z : List Value} {xs : List α} {k2 k3 : IntKind}
theorem os_run (i : Nat) {oi : Oper} {v : Value} (hi : ops[i]? = some oi) (hns : Region.noSelect ops = true) (hfree : Region.free .any ops listed i = true) (hready : (Region.ready .any ops listed).contains i = true)
    (hdst : oi.dst = some d) (hd : d < n) (hg : oi.guard = none) (h : ∀ w, (execOp (ev e) oi).run P w = .ok (.value v) w) (c : OS P n ops A fuel (listed.setIfInBounds i true) (put e d v) H K) : OS P n ops A (fuel + 1) listed e H K := by
  obtain ⟨dst, op, type, pos, after, guard⟩ := oi
  have hdst : dst = some d := hdst
  have hg : guard = none := hg
  subst hdst; subst hg
  exact os_pre i hi hns hfree hready rfl hd (o_rfl hd h (ops_nil ⟨rfl, rfl, Ent.refl _⟩)) c
theorem os_ownT (i : Nat) [f : Slc P st el sz bt z] (hi : ops[i]? = some ⟨some d, .slice st x none (some y) none, ty, ps, af, none⟩) (hns : Region.noSelect ops = true) (hfree : Region.free .any ops listed i = true) (hready : (Region.ready .any ops listed).contains i = true)
    (M : Nat) (hc0 : ∀ x, (cells x).length = sz) (hd : d < n) (hx : ev e x = .slice a xs.length cap) {j : Int} (hy : ev e y = .int k2 j) (hj : j = ((min xs.length M : Nat) : Int)) (hc : xs.length ≤ cap)
    (c : ∀ a', (∀ H' [RdC H' a (xs.flatMap cells)], RdC H' a' ((xs.take M).flatMap cells)) → OS P n ops A fuel (listed.setIfInBounds i true) (put e d (.slice a' (xs.take M).length cap)) H K) : OS P n ops A (fuel + 1) listed e H K := by
  obtain ⟨a', hr, h⟩ := run_ownT (P := P) (f := f) (d := d) (ty := ty) (ps := ps) (af := af) M hc0 hx hy hj hc
  exact os_run i hi hns hfree hready rfl hd rfl h (c a' hr)
theorem os_takeT (i : Nat) [f : Slc P st el sz bt z] (hi : ops[i]? = some ⟨some d, .slice st x none (some y) none, ty, ps, af, none⟩) (hns : Region.noSelect ops = true) (hfree : Region.free .any ops listed i = true) (hready : (Region.ready .any ops listed).contains i = true)
    (hc0 : ∀ x, (cells x).length = sz) (hd : d < n) (hx : ev e x = .slice a xs.length cap) {j : Int} (hy : ev e y = .int k2 j) (hj : j = (t : Int)) (ht : t ≤ xs.length) (hc : xs.length ≤ cap)
    (c : ∀ a', (∀ H' [RdC H' a (xs.flatMap cells)], RdC H' a' ((xs.take t).flatMap cells)) → OS P n ops A fuel (listed.setIfInBounds i true) (put e d (.slice a' (xs.take t).length cap)) H K) : OS P n ops A (fuel + 1) listed e H K := by
  subst hj
  obtain ⟨a', hr, h⟩ := run_takeT (P := P) (f := f) (d := d) (ty := ty) (ps := ps) (af := af) hc0 hx hy ht hc
  exact os_run i hi hns hfree hready rfl hd rfl h (c a' hr)
theorem os_dropT (i : Nat) [f : Slc P st el sz bt z] (hi : ops[i]? = some ⟨some d, .slice st x (some y) none none, ty, ps, af, none⟩) (hns : Region.noSelect ops = true) (hfree : Region.free .any ops listed i = true) (hready : (Region.ready .any ops listed).contains i = true)
    (hc0 : ∀ x, (cells x).length = sz) (hd : d < n) (hx : ev e x = .slice a xs.length cap) {j : Int} (hy : ev e y = .int k2 j) (hj : j = (t : Int)) (ht : t ≤ xs.length) (hc : xs.length ≤ cap)
    (c : ∀ a', (∀ H' [RdC H' a (xs.flatMap cells)], RdC H' a' ((xs.drop t).flatMap cells)) → OS P n ops A fuel (listed.setIfInBounds i true) (put e d (.slice a' (xs.drop t).length (cap - t))) H K) : OS P n ops A (fuel + 1) listed e H K := by
  subst hj
  obtain ⟨a', hr, h⟩ := run_dropT (P := P) (f := f) (d := d) (ty := ty) (ps := ps) (af := af) hc0 hx hy ht hc
  exact os_run i hi hns hfree hready rfl hd rfl h (c a' hr)
/-- All but an owned row, named, stays. -/
theorem os_butR (el sz : Nat) (a : Option Addr) (m cap : Nat) {l : List Value} {R : HP} {k : Nat} [ho : HasO H el sz a m cap l R] (h : OS P n ops R k listed e (ow el sz a m cap l * R) K) : OA P n ops k listed e H K :=
  (oa_os R h).ent ho.ent
end Go.Proofs.YtffhbdgoikkngaaS
