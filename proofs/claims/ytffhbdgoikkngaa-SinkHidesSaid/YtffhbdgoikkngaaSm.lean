/- The small logic: a callee walked in its place, loops walked round by round: for closed sentences. -/
import Derived.Test.YtffhbdgoikkngaaSl
import Derived.Laws.Cover3
namespace Go.Proofs.YtffhbdgoikkngaaS
open Go.RowKit
set_option linter.unusedVariables false
variable {P : Program} {n : Nat} {ops : Array Oper} {rest : List Oper} {e : Env} {H : HP} {Φ : Post} {d : Nat} {ty : TypeId} {ps : String} {af : Array Edge}
theorem ops_inl {f : FuncId} {fn : Func} {c : Code} {m : Nat} {l : List Operand} {ats : Array TypeId} {vs : List Value} {dd : Option Nat} {cf : Operand} [g : Goes P f] (hd : dOk n dd) (hcf : ev e cf = .func (.func f) #[] #[]) (hv : l.map (ev e) = vs)
    (hf : P.funcs[f]? = some fn) (hb : fn.body = some c) (hn : fn.ntmps = m) (hl : Nat.ble vs.length m = true)
    (h : Ex P m c (envOf vs) H (fun x e' H' => (x = .normal ∨ x = .ret) ∧ ∃ v, V P (resl fn e') H' v ∧ Ops P n ops rest (putO e dd v) H' Φ)) :
    Ops P n ops (⟨dd, .call { callee := .value cf, args := l.toArray, argTypes := ats }, ty, ps, af, none⟩ :: rest) e H Φ := fun a w0 w F r s =>
  wpList_plain rfl fun K hK => by
    subst hn
    have hl := Nat.le_of_ble_eq_true hl
    unfold Oper.wp
    have hx : (execOp a.eval ⟨dd, .call { callee := .value cf, args := l.toArray, argTypes := ats }, ty, ps, af, none⟩).run P w = .ok (.enter f vs.toArray) w := by
      rw [r.eval]
      simp only [execOp, resolve, hcf, Deferred.ofValue, invoke, List.map_toArray, hv]
      simp [run_call]
    rw [hx]
    simp only [Oper.upon]
    have hc : Calls P f vs.toArray w (fun e' w' => ∃ v H', e' = .returned v ∧ Ops P n ops rest (putO e dd v) H' Φ ∧ Sat w0 w' (H' * F)) := by
      refine calls_of_wp hf hb ?_
      refine wp_mono (h _ w0 w F ⟨by simp; omega, rfl, fun t => ?_⟩ s) ?_
      · simp only [envOf, Array.getD_eq_getD_getElem?, List.getD_eq_getElem?_getD]
        by_cases ht : t < vs.length
        · rw [Array.getElem?_append_left (by simpa using ht)]; simp
        · rw [Array.getElem?_append_right (by simpa using ht)]
          have e1 : vs[t]? = none := by simp; omega
          rw [e1]
          by_cases ht2 : t - vs.length < fn.ntmps - vs.length
          · simp [ht2]
          · simp [ht2]
      · rintro x a' w' ⟨e', H', r', ⟨hx, y, hv, ho⟩, s'⟩
        have hr := hv w0 w' F s'
        rw [← resl_eq r'] at hr
        have : bodyPost P fn (fun e' w' => ∃ v H', e' = .returned v ∧ Ops P n ops rest (putO e dd v) H' Φ ∧ Sat w0 w' (H' * F)) .ret a' w' := ⟨r'.defers, _, hr, y, H', rfl, ho, s'⟩
        rcases hx with rfl | rfl
        · exact this
        · exact this
    refine hc.mono ?_
    rintro e' w' ⟨v, H', rfl, ho, s'⟩
    exact hK _ _ (ho _ w0 w' F (r.putO hd _) s')
theorem fini {x : Exit} {fn : Func} {v : Value} {K : Value → HP → Prop} (hx : x = .normal ∨ x = .ret) (h1 : V P (resl fn e) H v) (h2 : K v H) : (x = .normal ∨ x = .ret) ∧ ∃ v, V P (resl fn e) H v ∧ K v H := ⟨hx, v, h1, h2⟩
theorem finO {x : Exit} {fn : Func} {v : Value} {e0 : Env} {dd : Option Nat} (hx : x = .normal ∨ x = .ret) (h1 : V P (resl fn e) H v) (h2 : Ops P n ops rest (putO e0 dd v) H Φ) : (x = .normal ∨ x = .ret) ∧ ∃ v, V P (resl fn e) H v ∧ Ops P n ops rest (putO e0 dd v) H Φ := ⟨hx, v, h1, h2⟩
/-- A loop that makes at most so many rounds. -/
def Rn (P : Program) (n : Nat) (c : Code) (Φ : Post) : Nat → Env → HP → Prop
  | 0, _, _ => False
  | k + 1, e, H => Ex P n c e H (andThen (Rn P n c Φ k) Φ)
theorem ex_rounds {c : Code} (k : Nat) (h : Rn P n c Φ k e H) : Ex P n (.loop c) e H Φ := by
  refine ex_loop (fun m e H => Rn P n c Φ m e H) h ?_
  intro m e H hm
  cases m with
  | zero => exact hm.elim
  | succ m =>
    refine Ex.mono (Ψ := andThen (Rn P n c Φ m) Φ) hm ?_
    intro x e H hx
    cases x <;> first | exact hx | exact ⟨m, Nat.lt_succ_self m, hx⟩
theorem rn_succ {c : Code} {k : Nat} (h : Ex P n c e H (andThen (Rn P n c Φ k) Φ)) : Rn P n c Φ (k + 1) e H := h
/-- A row that is not empty: it has a place, and room. -/
theorem o_appendS {x y : Operand} {st el sz bt : Nat} {z : List Value} [f : Slc P st el sz bt z] {a b : Option Addr} {m cap k ck : Nat} {l news : List Value} {R : HP} {u : Array TypeId} (hd : d < n) (hx : ev e x = .slice a m cap) (hy : ev e y = .slice b k ck) (hu : u = #[st, st])
    [ho : HasO H el sz a m cap l R] [hrd : RdC R b news] (hl : news.length = k * sz) (h1 : ∀ v ∈ news, v.oneCell' = true) (hb : (m + k) * bt ≤ 140737488355328) (hk : m + k ≤ maxLen) (hp : 0 < m + k)
    (c : ∀ g cap', m + k ≤ cap' → Ops P n ops rest (put e d (.slice (some ⟨g, 0, none⟩) (m + k) cap')) (ow el sz (some ⟨g, 0, none⟩) (m + k) cap' (l ++ news) * R) Φ) : Ops P n ops (⟨some d, .call ⟨.builtin .append, #[x, y], u⟩, ty, ps, af, none⟩ :: rest) e H Φ := by
  refine o_append hd hx hy hu hl h1 hb hk (fun a' cap' => ?_)
  intro x w0 w F r s
  have s1 := s
  rw [sep_assoc] at s1
  obtain ⟨_, h2, _, ⟨h3, _⟩ | ⟨g, cur, rfl, _⟩⟩ := ow_cases s1
  · omega
  · exact c g cap' h2 x w0 w F r s
theorem o_sliceS {x : Operand} {a : Option Addr} {len cap st el sz bt : Nat} {z : List Value} {lo hi : Option Operand} {l h : Nat} {cs : List Value} [f : Slc P st el sz bt z] [hrd : RdC H a cs] (hd : d < n) (hx : ev e x = .slice a len cap)
    (hh : match hi with | none => h = len | some y => ∃ k i, ev e y = .int k i ∧ 0 ≤ i ∧ i ≤ cap ∧ i.toNat = h) (hl : match lo with | none => l = 0 | some y => ∃ k i, ev e y = .int k i ∧ 0 ≤ i ∧ i ≤ h ∧ i.toNat = l) (hc : h ≤ cap) (hp : 0 < ((cs.drop (l * sz)).take ((h - l) * sz)).length)
    (c : ∀ ad, (∀ H' [RdC H' a cs], RdC H' (some ad) ((cs.drop (l * sz)).take ((h - l) * sz))) → Ops P n ops rest (put e d (.slice (some ad) (h - l) (cap - l))) H Φ) : Ops P n ops (⟨some d, .slice st x lo hi none, ty, ps, af, none⟩ :: rest) e H Φ := by
  refine o_slice_r (l := l) (h := h) hd hx hh hl hc (fun a' hr => ?_)
  have hr1 := hr H
  refine Ops.rd_some (a := a') (l := (cs.drop (l * sz)).take ((h - l) * sz)) hp (fun ad ha => ?_)
  subst ha
  exact c ad hr
theorem o_eqSN {x : Operand} {a : Option Addr} {len cap t el u : Nat} (hd : d < n) (hx : ev e x = .slice a len cap) (hu : P.underlying t = some (.slice el)) (k : Ops P n ops rest (put e d (.bool a.isNone)) H Φ) :
    Ops P n ops (⟨some d, .binOp .eql t x (.const (.slice none 0 0)) u, ty, ps, af, none⟩ :: rest) e H Φ :=
  o_rfl hd (fun w => by
    have hc : ev e (.const (.slice none 0 0)) = .slice none 0 0 := rfl
    have hg : ∀ w, (eqGuard .eql t x (.const (.slice none 0 0)) (.slice a len cap) (.slice none 0 0)).run P w = .ok () w := fun _ => rfl
    have hq : (binOp .eql t (.slice a len cap) (.slice none 0 0)).run P w = .ok (.bool a.isNone) w := by
      simp only [binOp]
      simp [run_equal_slice_nil w t el a len cap hu]
    simp only [execOp, hx, hc, Sem.run_bind, hg, hq, Result.andThen_ok]; rfl) k
theorem o_neSN {x : Operand} {a : Option Addr} {len cap t el u : Nat} (hd : d < n) (hx : ev e x = .slice a len cap) (hu : P.underlying t = some (.slice el)) (k : Ops P n ops rest (put e d (.bool !a.isNone)) H Φ) :
    Ops P n ops (⟨some d, .binOp .neq t x (.const (.slice none 0 0)) u, ty, ps, af, none⟩ :: rest) e H Φ :=
  o_rfl hd (fun w => by
    have hc : ev e (.const (.slice none 0 0)) = .slice none 0 0 := rfl
    have hg : ∀ w, (eqGuard .neq t x (.const (.slice none 0 0)) (.slice a len cap) (.slice none 0 0)).run P w = .ok () w := fun _ => rfl
    simp only [execOp, hx, hc, Sem.run_bind, hg, run_neq_slice_nil w t el a len cap hu, Result.andThen_ok]; rfl) k
section
variable {K : Env → Prop}
theorem q_eqA {x y : Operand} {xs ys : Array Value} {r : Bool} {t u : TypeId} (hd : d < n) (hx : ev e x = .agg xs) (hy : ev e y = .agg ys) (hg : P.eqGuardType P.depth t = false) (he : ∀ w, (Op.equalIn 10000 t (.agg xs) (.agg ys)).run P w = .ok r w)
    (k : QO P n ops rest (put e d (.bool r)) H K) : QO P n ops (⟨some d, .binOp .eql t x y u, ty, ps, af, none⟩ :: rest) e H K :=
  q_rfl hd (fun w => by simp only [execOp, hx, hy, Sem.run_bind, run_eqGuard_agg w _ _ _ _ _ _ hg, run_eql_struct, he, Result.andThen_ok]; rfl) k
theorem q_neA {x y : Operand} {xs ys : Array Value} {r : Bool} {t u : TypeId} (hd : d < n) (hx : ev e x = .agg xs) (hy : ev e y = .agg ys) (hg : P.eqGuardType P.depth t = false) (he : ∀ w, (Op.equalIn 10000 t (.agg xs) (.agg ys)).run P w = .ok r w)
    (k : QO P n ops rest (put e d (.bool !r)) H K) : QO P n ops (⟨some d, .binOp .neq t x y u, ty, ps, af, none⟩ :: rest) e H K :=
  q_rfl hd (fun w => by simp only [execOp, hx, hy, Sem.run_bind, run_eqGuard_agg w _ _ _ _ _ _ hg, run_neq_struct, he, Result.andThen_ok]; rfl) k
end
end Go.Proofs.YtffhbdgoikkngaaS
