/- The small logic: '==' of structs as one Bool (the words of the printed text EqStruct, turned to this logic's namespace). -/
import Derived.Test.YtffhbdgoikkngaaSj
import Derived.Laws.StructEq
namespace Go.Proofs.YtffhbdgoikkngaaS
open Go.RowKit
set_option linter.unusedVariables false
section
variable {P : Program} {d : Nat} {xs ys : Array Value} {f : Field} {fs : List Field} {a b : Value} {r s : Bool} {w : World}
/-- The last field that counts. -/
theorem eqf_last (hn : (f.name == "_") = false) (ha : (part f.type xs f.offset).run P w = .ok a w) (hb : (part f.type ys f.offset).run P w = .ok b w) (he : (Op.equalIn d f.type a b).run P w = .ok r w) : (Op.eqFields d xs ys [f]).run P w = .ok r w := by
  have hn' : f.name ≠ "_" := by simpa using hn
  simp only [Op.eqFields, if_pos hn', Sem.run_bind, ha, hb, he, Result.andThen_ok]
  cases r <;> simp
theorem eqf_cons (hn : (f.name == "_") = false) (ha : (part f.type xs f.offset).run P w = .ok a w) (hb : (part f.type ys f.offset).run P w = .ok b w) (he : (Op.equalIn d f.type a b).run P w = .ok r w) (hr : (Op.eqFields d xs ys fs).run P w = .ok s w) : (Op.eqFields d xs ys (f :: fs)).run P w = .ok (r && s) w := by
  have hn' : f.name ≠ "_" := by simpa using hn
  rw [Op.eqFields]
  simp only [if_pos hn', Sem.run_bind, ha, hb, he, Result.andThen_ok]
  cases r
  · simp
  · simpa using hr
/-- The last that counts, behind it such as_ don't. -/
theorem eqf_end (hn : (f.name == "_") = false) (ha : (part f.type xs f.offset).run P w = .ok a w) (hb : (part f.type ys f.offset).run P w = .ok b w) (he : (Op.equalIn d f.type a b).run P w = .ok r w) (hr : (Op.eqFields d xs ys fs).run P w = .ok true w) : (Op.eqFields d xs ys (f :: fs)).run P w = .ok r w := by
  have h := eqf_cons hn ha hb he hr
  rwa [Bool.and_true] at h
/-- A field named _ doesn't count. -/
theorem eqf_skip (hn : (f.name == "_") = true) (hr : (Op.eqFields d xs ys fs).run P w = .ok s w) : (Op.eqFields d xs ys (f :: fs)).run P w = .ok s w := by
  have hn' : ¬ (f.name ≠ "_") := by simpa using hn
  rw [Op.eqFields, if_neg hn']
  exact hr
theorem eqf_nil : (Op.eqFields d xs ys []).run P w = .ok true w := by simp [Op.eqFields]
theorem eqA_of {t : TypeId} {fs : Array Field} (hu : P.underlying t = some (.struct fs)) (hp : P.stoodInHeld t = false) (h : (Op.eqFields d xs ys fs.toList).run P w = .ok r w) : (Op.equalIn (d + 1) t (.agg xs) (.agg ys)).run P w = .ok r w := by
  have hf : P.fieldsOf t = fs := by simp [Program.fieldsOf, hu]
  rw [run_equalIn_struct (P := P) w d t xs ys (by rw [hf]; exact hu) hp, hf]
  exact h
end
section
variable {P : Program} {n : Nat} {ops : Array Oper} {rest : List Oper} {e : Env} {H : HP} {Φ : Post} {d : Nat} {ty : TypeId} {ps : String} {af : Array Edge}
theorem o_eqA {x y : Operand} {xs ys : Array Value} {r : Bool} {t u : TypeId} (hd : d < n) (hx : ev e x = .agg xs) (hy : ev e y = .agg ys) (hg : P.eqGuardType P.depth t = false) (he : ∀ w, (Op.equalIn 10000 t (.agg xs) (.agg ys)).run P w = .ok r w)
    (k : Ops P n ops rest (put e d (.bool r)) H Φ) : Ops P n ops (⟨some d, .binOp .eql t x y u, ty, ps, af, none⟩ :: rest) e H Φ :=
  o_rfl hd (fun w => by simp only [execOp, hx, hy, Sem.run_bind, run_eqGuard_agg w _ _ _ _ _ _ hg, run_eql_struct, he, Result.andThen_ok]; rfl) k
theorem o_neA {x y : Operand} {xs ys : Array Value} {r : Bool} {t u : TypeId} (hd : d < n) (hx : ev e x = .agg xs) (hy : ev e y = .agg ys) (hg : P.eqGuardType P.depth t = false) (he : ∀ w, (Op.equalIn 10000 t (.agg xs) (.agg ys)).run P w = .ok r w)
    (k : Ops P n ops rest (put e d (.bool !r)) H Φ) : Ops P n ops (⟨some d, .binOp .neq t x y u, ty, ps, af, none⟩ :: rest) e H Φ :=
  o_rfl hd (fun w => by simp only [execOp, hx, hy, Sem.run_bind, run_eqGuard_agg w _ _ _ _ _ _ hg, run_neq_struct, he, Result.andThen_ok]; rfl) k
theorem o_eqB {x y : Operand} {a b : Bool} {t u : TypeId} (hd : d < n) (hx : ev e x = .bool a) (hy : ev e y = .bool b) (hu : P.underlying t = some .bool) (k : Ops P n ops rest (put e d (.bool (a == b))) H Φ) : Ops P n ops (⟨some d, .binOp .eql t x y u, ty, ps, af, none⟩ :: rest) e H Φ :=
  o_rfl hd (fun w => by simp only [execOp, hx, hy, Sem.run_bind, show ∀ w, (eqGuard .eql t x y (.bool a) (.bool b)).run P w = .ok () w from fun _ => rfl, run_eql_bool w t a b hu, Result.andThen_ok]; rfl) k
theorem o_neB {x y : Operand} {a b : Bool} {t u : TypeId} (hd : d < n) (hx : ev e x = .bool a) (hy : ev e y = .bool b) (hu : P.underlying t = some .bool) (k : Ops P n ops rest (put e d (.bool !(a == b))) H Φ) : Ops P n ops (⟨some d, .binOp .neq t x y u, ty, ps, af, none⟩ :: rest) e H Φ :=
  o_rfl hd (fun w => by simp only [execOp, hx, hy, Sem.run_bind, show ∀ w, (eqGuard .neq t x y (.bool a) (.bool b)).run P w = .ok () w from fun _ => rfl, run_neq_bool w t a b hu, Result.andThen_ok]; rfl) k
end
end Go.Proofs.YtffhbdgoikkngaaS
