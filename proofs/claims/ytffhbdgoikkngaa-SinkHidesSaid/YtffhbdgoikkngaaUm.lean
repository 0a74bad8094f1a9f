/- The small logic: a map of ints to true that the call has made: a set of ints, in the order in which they came. -/
import Derived.Test.YtffhbdgoikkngaaTc
import Derived.MapKept
import Derived.Carry
namespace Go.Proofs.YtffhbdgoikkngaaS
open Go.RowKit
set_option linter.unusedVariables false
set_option linter.unusedSimpArgs false
variable {P : Program} {n : Nat} {ops : Array Oper} {rest : List Oper} {e : Env} {H : HP} {Φ : Post} {d : Nat} {ty : TypeId} {ps : String} {af : Array Edge}
def mE : Nat → List Int → List MapEntry
  | _, [] => []
  | o, k :: ks => { key := .int .i64 k, val := .bool true, born := o } :: mE (o + 1) ks
theorem mE_len : ∀ (o : Nat) (ks : List Int), (mE o ks).length = ks.length
  | _, [] => rfl
  | o, k :: ks => by simp [mE, mE_len (o + 1) ks]
theorem mE_app : ∀ (o : Nat) (ks : List Int) (k : Int), mE o (ks ++ [k]) = mE o ks ++ [{ key := .int .i64 k, val := .bool true, born := o + ks.length }]
  | o, [], k => by simp [mE]
  | o, a :: ks, k => by
    simp only [List.cons_append, mE, mE_app (o + 1) ks k, List.length_cons]
    rw [show o + 1 + ks.length = o + (ks.length + 1) by omega]
theorem find_no : ∀ (o i : Nat) (ks : List Int) (k : Int), k ∉ ks → Instr.findNow (.int .i64) (.int .i64 k) (mE o ks) i = some none
  | _, _, [], _, _ => rfl
  | o, i, a :: ks, k, h => by
    have h1 : k ≠ a := fun e => h (by rw [e]; exact List.mem_cons_self ..)
    have h2 : k ∉ ks := fun e => h (List.mem_cons_of_mem _ e)
    have hb : (k == a) = false := by simpa using h1
    simp [mE, Instr.findNow, Instr.sameNow, hb, h1, find_no (o + 1) (i + 1) ks k h2]
theorem find_yes : ∀ (o i : Nat) (ks : List Int) (k : Int), k ∈ ks → ∃ j, (mE o ks)[j]? = some { key := .int .i64 k, val := .bool true, born := o + j } ∧ Instr.findNow (.int .i64) (.int .i64 k) (mE o ks) i = some (some (i + j, .bool true))
  | _, _, [], _, h => by cases h
  | o, i, a :: ks, k, h => by
    by_cases h1 : k = a
    · subst h1
      exact ⟨0, by simp [mE], by simp [mE, Instr.findNow, Instr.sameNow]⟩
    · have h2 : k ∈ ks := by
        rcases List.mem_cons.1 h with h | h
        · exact absurd h h1
        · exact h
      obtain ⟨j, hj, hf⟩ := find_yes (o + 1) (i + 1) ks k h2
      refine ⟨j + 1, ?_, ?_⟩
      · simp only [mE, List.getElem?_cons_succ, hj]; rw [show o + 1 + j = o + (j + 1) by omega]
      · have hb : (k == a) = false := by simpa using h1
        simp only [mE, Instr.findNow, Instr.sameNow, if_true, hb, hf]
        rw [show i + 1 + j = i + (j + 1) by omega]
def mp (b : Nat) (ks : List Int) : HP := blk true b (.map (mE 0 ks).toArray ks.length)
theorem o_makeMap {t : TypeId} (hd : d < n) (c : ∀ b, Ops P n ops rest (put e d (.map (some b))) (mp b [] * H) Φ) : Ops P n ops (⟨some d, .makeMap t none, ty, ps, af, none⟩ :: rest) e H Φ :=
  ops_step rfl hd fun w0 w F s => by
    refine ⟨Next.value (.map (some w.heap.size)), w.alloc (.map #[] 0), mp w.heap.size [] * H, ?_, c _, ?_⟩
    · simp only [execOp, Option.map_none]; rfl
    · have := s.alloc (.map #[] 0)
      rw [sep_assoc]
      exact this
theorem mod_same {es : Array MapEntry} {j : Nat} {x : MapEntry} {f : MapEntry → MapEntry} (h : es[j]? = some x) (hf : f x = x) : es.modify j f = es := by
  apply Array.ext
  · simp
  · intro i h1 h2
    rw [Array.getElem_modify]
    split
    · rename_i hij
      subst hij
      have : es[j]? = some es[j] := Array.getElem?_eq_getElem h2
      rw [this] at h
      rw [Option.some.inj h, hf]
    · rfl
def mput (ks : List Int) (k : Int) : List Int := if k ∈ ks then ks else ks ++ [k]
theorem o_mapPut {t kt et : TypeId} {x y z : Operand} {b : Nat} {ks : List Int} {k : Int} {R : HP} (ht : P.underlying t = some (.map kt et)) (hk : P.underlying kt = some (.int .i64)) (hx : ev e x = .map (some b)) (hy : ev e y = .int .i64 k) (hz : ev e z = .bool true) [tk : Take (mp b ks) H R]
    (c : Ops P n ops rest e (mp b (mput ks k) * R) Φ) : Ops P n ops (⟨none, .mapUpdate t x y z, ty, ps, af, none⟩ :: rest) e H Φ :=
  ops_step rfl trivial fun w0 w F s => by
    rw [tk.eq, sep_assoc] at s
    have hb : w.heap[b]? = some (.map (mE 0 ks).toArray ks.length) := s.blk
    have hc : (Instr.checkKey false 10000 kt (.int .i64 k)).run P w = .ok () w := MapKept.run_checkKey (k := .int .i64 k) hk (by simp [MapKept.IsKey]) false 9999
    by_cases hm : k ∈ ks
    · obtain ⟨j, hj, hf⟩ := find_yes 0 0 ks k hm
      rw [Nat.zero_add] at hf hj
      have hmod : (mE 0 ks).toArray.modify j (fun e => { e with key := .int .i64 k, val := .bool true }) = (mE 0 ks).toArray := mod_same (x := { key := .int .i64 k, val := .bool true, born := j }) (by simpa using hj) rfl
      refine ⟨.skip, { w with heap := w.heap.setIfInBounds b (.map (mE 0 ks).toArray ks.length) }, mp b (mput ks k) * R, ?_, c, ?_⟩
      · have hj2 : (mE 0 ks).toArray[j]? = some { key := .int .i64 k, val := .bool true, born := j } := by simpa using hj
        have hkk : (Instr.keyThatStays (.int .i64 k) (.int .i64 k)).run P w = .ok (.int .i64 k) w := by simp [Instr.keyThatStays, Instr.sameBits]
        simp only [execOp, hx, hy, hz]
        simp [Instr.mapUpdate, run_underlying ht, MapKept.run_getObj_map hb, hc, MapKept.run_findKey hk hf, hj, hkk, MapKept.run_setObj_map _ hb, Result.andThen]
        rw [← hmod]
        simp
      · unfold mput; rw [if_pos hm, sep_assoc]
        exact Sat.setBlock (w' := { w with heap := w.heap.setIfInBounds b (.map (mE 0 ks).toArray ks.length) }) s rfl rfl rfl (by simp) ((MapKept.heap_set hb).1) (fun c hc => (MapKept.heap_set hb).2 c hc)
    · have hf := find_no 0 0 ks k hm
      have happ : (mE 0 ks).toArray.push { key := .int .i64 k, val := .bool true, born := ks.length } = (mE 0 (ks ++ [k])).toArray := by rw [mE_app, Nat.zero_add]; simp
      refine ⟨.skip, { w with heap := w.heap.setIfInBounds b (.map (mE 0 (ks ++ [k])).toArray (ks ++ [k]).length) }, mp b (mput ks k) * R, ?_, c, ?_⟩
      · simp only [execOp, hx, hy, hz]
        simp [Instr.mapUpdate, run_underlying ht, MapKept.run_getObj_map hb, hc, MapKept.run_findKey hk hf, MapKept.run_setObj_map _ hb, Result.andThen]
        rw [← happ]
        simp
      · unfold mput; rw [if_neg hm, sep_assoc]
        exact Sat.setBlock (w' := { w with heap := w.heap.setIfInBounds b (.map (mE 0 (ks ++ [k])).toArray (ks ++ [k]).length) }) s rfl rfl rfl (by simp) ((MapKept.heap_set hb).1) (fun c hc => (MapKept.heap_set hb).2 c hc)
theorem o_mapLen {t kt et : TypeId} {x : Operand} {b : Nat} {ks : List Int} {R : HP} {u : Array TypeId} (ht : P.underlying t = some (.map kt et)) (hd : d < n) (hx : ev e x = .map (some b)) (hu : u = #[t]) [tk : Take (mp b ks) H R]
    (c : Ops P n ops rest (put e d (.int .i64 (ks.length : Int))) H Φ) : Ops P n ops (⟨some d, .call ⟨.builtin .len, #[x], u⟩, ty, ps, af, none⟩ :: rest) e H Φ :=
  ops_step rfl hd (T.ofV (v := Next.value (.int .i64 (ks.length : Int))) (fun w0 w F s => by
    rw [tk.eq, sep_assoc] at s
    have hb : w.heap[b]? = some (.map (mE 0 ks).toArray ks.length) := s.blk
    subst hu
    simp [execOp, resolve, invoke, builtin, hx, Builtin.len_, run_underlying ht, MapKept.run_getObj_map hb, goInt, mE_len]) c)
end Go.Proofs.YtffhbdgoikkngaaS
