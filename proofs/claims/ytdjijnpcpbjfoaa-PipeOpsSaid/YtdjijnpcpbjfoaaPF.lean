import Derived.Test.YtdjijnpcpbjfoaaPD
import Derived.Test.YtdjijnpcpbjfoaaSx
namespace Go.Proofs.YtdjijnpcpbjfoaaS
open Go.RowKit
set_option linter.unusedVariables false
set_option linter.unusedSimpArgs false
theorem cells_get {α : Type} {cells : α → List Value} {sz : Nat} (h : ∀ x, (cells x).length = sz) (l : List α) (i : Nat) (hi : i < l.length) (j : Nat) (hj : j < sz) : (l.flatMap cells)[i * sz + j]? = (cells l[i])[j]? := by
  have e := flat_sub h l i hi
  rw [← e, List.getElem?_take, if_pos hj, List.getElem?_drop]
theorem split_at {α : Type} (M : List α) (i : Nat) (h : i < M.length) : M = M.take i ++ M[i] :: M.drop (i + 1) := by
  rw [← List.drop_eq_getElem_cons h, List.take_append_drop]
theorem spl_snd (M : List (Int × Int)) (i : Nat) (h : i < M.length) (v : Int) : spl (M.flatMap oc) (i * 2 + 1) [.int .i64 v] = (M.take i ++ (M[i].1, v) :: M.drop (i + 1)).flatMap oc := by
  have hA : (M.take i).length = i := by rw [List.length_take]; omega
  have hAf : ((M.take i).flatMap oc).length = i * 2 := by rw [flat_len oc_len, hA]
  have e : M.flatMap oc = (M.take i).flatMap oc ++ ([.int .i64 M[i].1] ++ ([.int .i64 M[i].2] ++ (M.drop (i + 1)).flatMap oc)) := by
    have := congrArg (fun z => z.flatMap oc) (split_at M i h)
    simp only [List.flatMap_append, List.flatMap_cons] at this
    exact this
  have hfit : i * 2 + 1 + [Value.int .i64 v].length ≤ (M.flatMap oc).length := by rw [flat_len oc_len]; show i * 2 + 1 + 1 ≤ _; omega
  rw [spl_eq _ _ _ hfit, List.flatMap_append, List.flatMap_cons, e]
  have h1 : ((M.take i).flatMap oc ++ ([Value.int .i64 M[i].1] ++ ([Value.int .i64 M[i].2] ++ (M.drop (i + 1)).flatMap oc))).take (i * 2 + 1) = (M.take i).flatMap oc ++ [.int .i64 M[i].1] := by
    rw [← List.append_assoc, ← hAf]
    have : ((M.take i).flatMap oc).length + 1 = ((M.take i).flatMap oc ++ [Value.int .i64 M[i].1]).length := by simp
    rw [this]; exact List.take_left
  have h2 : ((M.take i).flatMap oc ++ ([Value.int .i64 M[i].1] ++ ([Value.int .i64 M[i].2] ++ (M.drop (i + 1)).flatMap oc))).drop (i * 2 + 1 + [Value.int .i64 v].length) = (M.drop (i + 1)).flatMap oc := by
    rw [← List.append_assoc, ← List.append_assoc, ← hAf]
    have : ((M.take i).flatMap oc).length + 1 + [Value.int .i64 v].length = ((M.take i).flatMap oc ++ [Value.int .i64 M[i].1] ++ [Value.int .i64 M[i].2]).length := by simp
    rw [this]; exact List.drop_left
  rw [h1, h2]
  simp [oc]
/-- Two neighbours change places. -/
def swp (L : List (Int × Int)) (i : Nat) : List (Int × Int) := (L.set i ((L[i + 1]?).getD (0, 0))).set (i + 1) ((L[i]?).getD (0, 0))
theorem swp_len (L : List (Int × Int)) (i : Nat) : (swp L i).length = L.length := by unfold swp; simp
theorem swp_mem {L : List (Int × Int)} {i : Nat} (h : i + 1 < L.length) : ∀ o ∈ swp L i, o ∈ L := by
  intro o ho
  unfold swp at ho
  rw [List.getElem?_eq_getElem h, List.getElem?_eq_getElem (by omega : i < L.length)] at ho
  rcases List.mem_or_eq_of_mem_set ho with ho | rfl
  · rcases List.mem_or_eq_of_mem_set ho with ho | rfl
    · exact ho
    · exact List.getElem_mem h
  · exact List.getElem_mem _
theorem swp_eq {L : List (Int × Int)} {i : Nat} (h : i + 1 < L.length) : decide (L = swp L i) = decide (L[i]'(by omega) = L[i + 1]) := by
  rw [decide_eq_decide]
  constructor
  · intro he
    have h1 : (swp L i)[i]'(by rw [swp_len]; omega) = L[i + 1] := by
      unfold swp
      rw [List.getElem_set_ne (by omega), List.getElem_set_self, List.getElem?_eq_getElem h]; rfl
    rw [← h1]
    congr 1
  · intro he
    unfold swp
    rw [List.getElem?_eq_getElem h, List.getElem?_eq_getElem (by omega : i < L.length)]
    show L = (L.set i L[i + 1]).set (i + 1) (L[i]'(by omega))
    rw [← he, List.set_getElem_self, he, List.set_getElem_self]
theorem set_spl (M : List (Int × Int)) (i : Nat) (h : i < M.length) (o : Int × Int) : spl (M.flatMap oc) (i * 2) (oc o) = (M.set i o).flatMap oc := by
  have := flat_splO M [o] i (by show i + 1 ≤ _; omega)
  have e : [o].flatMap oc = oc o := by simp
  rw [e] at this
  rw [this, List.set_eq_take_append_cons_drop, if_pos h]
  simp
theorem ops_more (L : List (Int × Int)) (Z S G K F : Int) (hl : L.length ≤ 5) : (puts (pl (L ++ [(1, 1)], Z, S, G, K, F))).length = (puts (pl (L, Z, S, G, K, F))).length + 2 := by
  have e1 : pl (L ++ [(1, 1)], Z, S, G, K, F) = [Z, S, G, K, F] ++ ([((L.length + 1 : Nat) : Int)] ++ (prs L ++ [1, 1])) := by
    unfold pl hd6; rw [prs_app]; simp [prs]
  have e2 : pl (L, Z, S, G, K, F) = [Z, S, G, K, F] ++ ([((L.length : Nat) : Int)] ++ prs L) := by
    unfold pl hd6; simp
  have hs : ∀ k : Nat, k ≤ 6 → (puts [(k : Int)]).length = 1 := fun k hk => by
    have e : puts [(k : Int)] = enc 9 (zz k) := by show enc 9 (zz k) ++ [] = _; rw [List.append_nil]
    rw [e, enc_small 9 (zz k) (by unfold zz; rw [if_pos (by omega)]; omega)]; rfl
  have h11 : (puts [1, 1]).length = 2 := by decide +kernel
  rw [e1, e2, puts_app, puts_app, puts_app, puts_app, puts_app]
  simp only [List.length_append]
  rw [hs (L.length + 1) (by omega), hs L.length (by omega), h11]
  omega
end Go.Proofs.YtdjijnpcpbjfoaaS
