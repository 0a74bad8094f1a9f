/- Contracts of the functions that the statement reaches: the walk of the program by the small logic, part 1: T7p, T7. No condition beyond what each theorem states. -/
import Derived.Test.YtcelailgedndnaaGreatZ8
namespace Go.Proofs.YtcelailgedndnaaGreatS
open Go.RowKit Go.ChangeShapes Go.WideShapes
set_option linter.unusedVariables false
set_option linter.unusedSimpArgs false
set_option maxRecDepth 100000
/-- What is refused changes nothing that is seen; the error is one that there is. -/
theorem ref_law {s : Cs} {n : Nat} (ok : CsOk s n) (a : Ac) : (0 ≤ (doS a s).2.1 ∧ (doS a s).2.1 ≤ 6) ∧ ((doS a s).2.1 ≠ 0 → Sim s (doS a s).1 ∧ (doS a s).2.2.1 = [] ∧ (doS a s).2.2.2 = []) := by
  obtain ⟨kd, tn, fr, nn, p, i⟩ := a
  unfold doS
  split
  · show (0 ≤ (register tn p s).2 ∧ (register tn p s).2 ≤ 6) ∧ ((register tn p s).2 ≠ 0 → Sim s (register tn p s).1 ∧ ([] : List Rw) = [] ∧ ([] : List Bd.Rl) = [])
    unfold register
    split
    · exact ⟨by simp, fun _ => ⟨Sim.refl s, rfl, rfl⟩⟩
    · split
      · exact ⟨by simp, fun _ => ⟨Sim.refl s, rfl, rfl⟩⟩
      · split
        · exact ⟨by simp, fun _ => ⟨Sim.refl s, rfl, rfl⟩⟩
        · exact ⟨by simp, fun h => absurd rfl h⟩
  · split
    · exact ⟨by simp, fun h => absurd rfl h⟩
    · split
      · show (0 ≤ (toldAt tn fr nn s).2 ∧ (toldAt tn fr nn s).2 ≤ 6) ∧ ((toldAt tn fr nn s).2 ≠ 0 → Sim s s ∧ ([] : List Rw) = [] ∧ (toldAt tn fr nn s).1 = [])
        unfold toldAt
        split
        · exact ⟨by simp, fun _ => ⟨Sim.refl s, rfl, rfl⟩⟩
        · simp only
          split
          · exact ⟨by simp, fun _ => ⟨Sim.refl s, by simp, by simp⟩⟩
          · exact ⟨by simp, fun h => absurd rfl h⟩
      · split
        · exact ⟨by simp, fun _ => ⟨Sim.refl s, rfl, rfl⟩⟩
        · cases hc : cellI s tn with
          | none => exact ⟨by simp, fun _ => ⟨Sim.refl s, rfl, rfl⟩⟩
          | some c =>
            simp only [hc]
            split
            · show (0 ≤ (offer s.ro i c).2 ∧ (offer s.ro i c).2 ≤ 6) ∧ ((offer s.ro i c).2 ≠ 0 → Sim s { s with cells := s.cells.set tn.toNat (some (offer s.ro i c).1) } ∧ ([] : List Rw) = [] ∧ ([] : List Bd.Rl) = [])
              have ht : 0 ≤ tn ∧ tn ≤ 7 := by
                unfold cellI at hc
                split at hc
                · assumption
                · cases hc
              have hc' : cell s tn.toNat = some c := by
                unfold cellI at hc
                rwa [if_pos ht] at hc
              have key : Sim s { s with cells := s.cells.set tn.toNat (some (refuse c)) } := ⟨rfl, fun t h8 => by
                rw [cell_set (s := s) (P := s.pots) (by rw [ok.c8]; omega) t]
                by_cases h : t = tn.toNat
                · rw [if_pos h, h, hc']
                  exact .inr ⟨c, refuse c, rfl, rfl, rfl, rfl, rfl⟩
                · rw [if_neg h]
                  cases hq : cell s t with
                  | none => exact .inl ⟨rfl, rfl⟩
                  | some d => exact .inr ⟨d, d, rfl, rfl, rfl, rfl, rfl⟩, rfl⟩
              unfold offer
              split
              · exact ⟨by simp, fun _ => ⟨key, rfl, rfl⟩⟩
              · split
                · exact ⟨by simp, fun _ => ⟨key, rfl, rfl⟩⟩
                · split
                  · exact ⟨by simp, fun _ => ⟨key, rfl, rfl⟩⟩
                  · exact ⟨by simp, fun h => absurd rfl h⟩
            · show (0 ≤ (rowsAt fr nn c).2 ∧ (rowsAt fr nn c).2 ≤ 6) ∧ ((rowsAt fr nn c).2 ≠ 0 → Sim s s ∧ (rowsAt fr nn c).1 = [] ∧ ([] : List Bd.Rl) = [])
              unfold rowsAt
              split
              · exact ⟨by simp, fun _ => ⟨Sim.refl s, rfl, rfl⟩⟩
              · exact ⟨by simp, fun h => absurd rfl h⟩
/-! ### Acts of any numbers, handed in -/
theorem shapeO {H : Type} {enc : TypeId × Value → H} {W : World} {base : Nat} {held : Bool} : ∀ n cs y, DataW.trod enc Tryz.prog W base (fun _ => true) held n 159 cs = some y → ∃ o : Int × Int, cs = oc o ∧ True := by
  intro n cs y h
  have c3 : Tryz.prog.cellsOf 3 = 1 := by kernel_rfl
  have c23 : Tryz.prog.cellsOf 159 = 2 := by kernel_rfl
  obtain ⟨y0, y1, n1, rfl, hl, h0, h1⟩ := trod_struct2 Tryz.underlying159 h
  obtain ⟨m0, e0, _, w0⟩ := DataW.trod_int Tryz.underlying3 h0
  obtain ⟨m1, e1, _, w1⟩ := DataW.trod_int Tryz.underlying3 h1
  rw [c23] at hl
  match cs, hl with
  | [v0, v1], _ =>
    simp [c3] at e0 e1
    subst e0; subst e1
    exact ⟨(m0, m1), rfl, trivial⟩
theorem shapeI {H : Type} {enc : TypeId × Value → H} {W : World} {base : Nat} {held : Bool} : ∀ n cs y, DataW.trod enc Tryz.prog W base (fun _ => true) held n 39 cs = some y → ∃ x : In, cs = inc x := by
  intro n cs y h
  have c33 : Tryz.prog.cellsOf 39 = 5 := by kernel_rfl
  have c31 : Tryz.prog.cellsOf 37 = 4 := by kernel_rfl
  have c4 : Tryz.prog.cellsOf 4 = 1 := by kernel_rfl
  have c3 : Tryz.prog.cellsOf 3 = 1 := by kernel_rfl
  have c29 : Tryz.prog.cellsOf 35 = 1 := by kernel_rfl
  obtain ⟨y0, y1, n1, rfl, hl, h0, h1⟩ := trod_struct2 Tryz.underlying39 h
  obtain ⟨b, hb, _⟩ := DataW.trod_bool Tryz.underlying4 h0
  obtain ⟨z0, z1, z2, z3, n2, _, hl2, g0, g1, g2, g3⟩ := Go.Joins.trod_struct4 Tryz.underlying37 h1
  obtain ⟨m0, e0, _, w0⟩ := DataW.trod_int Tryz.underlying3 g0
  obtain ⟨m1, e1, _, w1⟩ := DataW.trod_int Tryz.underlying3 g1
  obtain ⟨m2, e2, _, w2⟩ := DataW.trod_int Tryz.underlying3 g2
  obtain ⟨m3, e3, _, w3⟩ := DataW.trod_int Tryz.underlying35 g3
  obtain ⟨lb, rfl⟩ := U_of w3
  rw [c33] at hl
  match cs, hl with
  | [v0, v1, v2, v3, v4], _ =>
    simp [c31, c4, c3, c29] at hb e0 e1 e2 e3
    subst hb; subst e0; subst e1; subst e2; subst e3
    exact ⟨(b, m0, m1, m2, lb), rfl⟩
theorem shapeP {H : Type} {enc : TypeId × Value → H} {W : World} {base : Nat} {held : Bool} : ∀ n cs y, DataW.trod enc Tryz.prog W base (fun _ => true) held n 33 cs = some y → ∃ a c p, cs = ppc a c p ∧ (Fits W (rs a (p.1.flatMap oc)) ∧ p.1.length ≤ c ∧ c ≤ maxLen) := by
  intro n cs y h
  have c3 : Tryz.prog.cellsOf 3 = 1 := by kernel_rfl
  have c24 : Tryz.prog.cellsOf 31 = 1 := by kernel_rfl
  have c26 : Tryz.prog.cellsOf 33 = 6 := by kernel_rfl
  obtain ⟨xs, n, _, _, hl, hlen, hfl⟩ := DataW.trod_struct Tryz.underlying33 h
  obtain ⟨v0, v1, v2, v3, v4, v5, rfl⟩ := R.list6 (hl.trans c26)
  obtain ⟨y0, y1, y2, y3, y4, y5, rfl⟩ := R.list6 (show xs.length = 6 from hlen)
  have h0 := hfl 0 _ rfl
  have h1 := hfl 1 _ rfl
  have h2 := hfl 2 _ rfl
  have h3 := hfl 3 _ rfl
  have h4 := hfl 4 _ rfl
  have h5 := hfl 5 _ rfl
  simp only [List.getElem?_cons_zero, List.getElem?_cons_succ] at h0 h1 h2 h3 h4 h5
  obtain ⟨a, L, c, e0, hfit, hrg, hc, hm⟩ := slice_typed oc_len (by decide) shapeO Tryz.underlying31 (by kernel_rfl) h0
  obtain ⟨m1, e1, _, w1⟩ := DataW.trod_int Tryz.underlying3 h1
  obtain ⟨m2, e2, _, w2⟩ := DataW.trod_int Tryz.underlying3 h2
  obtain ⟨m3, e3, _, w3⟩ := DataW.trod_int Tryz.underlying3 h3
  obtain ⟨m4, e4, _, w4⟩ := DataW.trod_int Tryz.underlying3 h4
  obtain ⟨m5, e5, _, w5⟩ := DataW.trod_int Tryz.underlying3 h5
  simp [c3, c24] at e0 e1 e2 e3 e4 e5
  subst e0; subst e1; subst e2; subst e3; subst e4; subst e5
  exact ⟨a, c, (L, m1, m2, m3, m4, m5), rfl, hfit, hc, hm⟩
theorem shapeRA {H : Type} {enc : TypeId × Value → H} {W : World} {base : Nat} {held : Bool} : ∀ n cs y, DataW.trod enc Tryz.prog W base (fun _ => true) held n 41 cs = some y → ∃ x : At, cs = ae x ∧ (Fits W (orr x) ∧ x.2.2.2.2.2.2.1.1.length ≤ x.2.1 ∧ x.2.1 ≤ maxLen) := by
  intro n cs y h
  have c3 : Tryz.prog.cellsOf 3 = 1 := by kernel_rfl
  have c29 : Tryz.prog.cellsOf 33 = 6 := by kernel_rfl
  have c26 : Tryz.prog.cellsOf 39 = 5 := by kernel_rfl
  have c31 : Tryz.prog.cellsOf 41 = 15 := by kernel_rfl
  obtain ⟨xs, n, _, _, hl, hlen, hfl⟩ := DataW.trod_struct Tryz.underlying41 h
  obtain ⟨y0, y1, y2, y3, y4, y5, rfl⟩ := R.list6 (show xs.length = 6 from hlen)
  have h0 := hfl 0 _ rfl
  have h1 := hfl 1 _ rfl
  have h2 := hfl 2 _ rfl
  have h3 := hfl 3 _ rfl
  have h4 := hfl 4 _ rfl
  have h5 := hfl 5 _ rfl
  simp only [List.getElem?_cons_zero, List.getElem?_cons_succ] at h0 h1 h2 h3 h4 h5
  obtain ⟨m0, e0, _, w0⟩ := DataW.trod_int Tryz.underlying3 h0
  obtain ⟨m1, e1, _, w1⟩ := DataW.trod_int Tryz.underlying3 h1
  obtain ⟨m2, e2, _, w2⟩ := DataW.trod_int Tryz.underlying3 h2
  obtain ⟨m3, e3, _, w3⟩ := DataW.trod_int Tryz.underlying3 h3
  obtain ⟨a, c, q, e4, hg⟩ := shapeP _ _ _ h4
  obtain ⟨i, e5⟩ := shapeI _ _ _ h5
  have hl : cs.length = 15 := hl.trans c31
  match cs, hl with
  | [v0, v1, v2, v3, v4, v5, v6, v7, v8, v9, v10, v11, v12, v13, v14], _ =>
    simp [c3, c29, c26, ppc, inc] at e0 e1 e2 e3 e4 e5
    obtain ⟨rfl, rfl, rfl, rfl, rfl, rfl⟩ := e4
    obtain ⟨rfl, rfl, rfl, rfl, rfl⟩ := e5
    subst e0; subst e1; subst e2; subst e3
    exact ⟨(a, c, (m0, m1, m2, m3, q, i)), rfl, hg⟩
theorem fits_orm {W : World} (L : List At) (h : ∀ r ∈ L, Fits W (orr r)) : Fits W (orm L) := by
  induction L with
  | nil => exact Fits.one W
  | cons r L ih => exact Fits.mul (h r (List.mem_cons_self ..)) (ih fun x hx => h x (List.mem_cons_of_mem _ hx))
end Go.Proofs.YtcelailgedndnaaGreatS
namespace Go.Proofs.YtcelailgedndnaaGreatS
open Go.RowKit
set_option linter.unusedVariables false
set_option linter.unusedSimpArgs false
/-- A raw act with its operations cut. -/
def cutA (x : Option Addr) (r : At) : At := (x, r.2.1, r.2.2.1, r.2.2.2.1, r.2.2.2.2.1, r.2.2.2.2.2.1, (r.2.2.2.2.2.2.1.1.take 8, r.2.2.2.2.2.2.1.2), r.2.2.2.2.2.2.2)
theorem rdc_K {X H K : HP} {A : List At} (hK : ∀ r ∈ A, RdP K r.1 (r.2.2.2.2.2.2.1.1.flatMap oc)) [t : Take K X H] : ∀ r ∈ A, RdC X r.1 (r.2.2.2.2.2.2.1.1.flatMap oc) := by
  intro x hx
  rw [t.eq]
  exact ⟨(hK x hx).left H⟩
set_option linter.unusedVariables false
set_option linter.unusedSimpArgs false
attribute [local irreducible] Ops Ex Spec T V QO OA Rn OS
set_option maxRecDepth 100000 in
set_option maxHeartbeats 16000000 in
theorem topRefused (z : Su) (a1 : Option Addr) (l : List R.Kn) (c1 : Nat) (a2 : Option Addr) (raw : List At) (c2 : Nat) (hz : z.2.2.2.2.1.length ≤ maxLen) (hraw : ∀ r ∈ raw, r.2.2.2.2.2.2.1.1.length ≤ r.2.1) (hrl : raw.length ≤ maxLen) :
    Spec Tryz.prog 6 [.agg (suc z).toArray, .slice a1 l.length c1, .slice a2 raw.length c2] (suH z * (rs a1 (l.flatMap R.kac) * (pmS l * (rs a2 (raw.flatMap ae) * orm raw)))) (X := Unit) (fun _ => .bool true) (fun _ => True) (fun _ => 1) := by
  obtain ⟨bu, ro, qu, sa, sl, sc0⟩ := z
  have hz : sl.length ≤ maxLen := hz
  show Spec Tryz.prog 6 [.agg (List.toArray [.int .i64 bu, .int .i64 ro, .int .i64 qu, .slice sa sl.length sc0]), .slice a1 l.length c1, .slice a2 raw.length c2] (rs sa (sl.flatMap R.kc) * (rs a1 (l.flatMap R.kac) * (pmS l * (rs a2 (raw.flatMap ae) * orm raw)))) (X := Unit) (fun _ => .bool true) (fun _ => True) (fun _ => 1)
  have hset := fun (H' : HP) (h : RdC H' sa (sl.flatMap R.kc)) => setupK H' sa sl sc0 bu ro qu (hr := h) hz
  have ok0 := newCs_ok (wn bu 1 4) (wn ro 1 8) (wn qu 0 30) (kS sl) (Nat.le_trans (kS_len sl) (by decide))
  have hq0 : (newCs (wn bu 1 4) (wn ro 1 8) (wn qu 0 30) (kS sl)).qu ≤ 4000 := by
    have b3 := wn_bd qu 0 30 (by omega)
    show wn qu 0 30 ≤ 4000
    omega
  have hnew := fun (sb : Option Addr) (sd : Nat) (H' : HP) (h : RdC H' sb ((kS sl).flatMap sc)) => coNew H' sb (kS sl) sd (wn bu 1 4) (wn ro 1 8) (wn qu 0 30) (hr := h) (Nat.le_trans (kS_len sl) (by decide)) (kS_right bu ro qu sl)
  generalize newCs (wn bu 1 4) (wn ro 1 8) (wn qu 0 30) (kS sl) = s0 at *
  have hacts := fun (X' H' : HP) (h1 : Take (pmS l) X' H') (h2 : RdC X' a1 (l.flatMap R.kac)) => actsK X' a1 c1 l (ha := h2) (rdc_pmS l)
  refine spec_of Tryz.func6 rfl Tryz.ntmps6 rfl ?_
  repeat' (first | (refine rG 0 [1, 2, 3] ?_; ((try ((refine o_box (by decide) (v := .agg (List.toArray _)) rfl rfl (fun b5 => ?_)))) <;> (try (refine wK ?_; intro _)))) | (refine rG 1 [1, 2, 7] ?_; ((try refine wO ?_) <;> (try ((refine o_callH (hset _ inferInstance) (by first | exact True.intro | (show _ < _; decide)) rfl rfl (fun y _ => ?_); obtain ⟨sb, sd⟩ := y))) <;> (try ((refine o_alloc_a (by decide) (fun b11 => ?_)))) <;> (try (refine wK ?_; intro _)))) | (refine rG 2 [1, 2, 8] ?_; ((try refine wO ?_) <;> (try ((refine o_callH (hnew _ _ _ inferInstance) (by first | exact True.intro | (show _ < _; decide)) rfl rfl (fun b _ => ?_)))) <;> (try (refine wK ?_; intro _)))) | (refine rG 3 [1, 2, 8, 21] ?_; ((try (refine wK ?_; intro _)))) | refine wC ?_ | (refine ex_split rfl ?_ ?_ <;> intro hc))
  repeat' (first | (refine rG 5 [2, 8, 9] ?_; ((try refine wO ?_) <;> (try ((refine o_callH (hacts _ _ inferInstance inferInstance) (by first | exact True.intro | (show _ < _; decide)) rfl rfl (fun y hy => ?_); obtain ⟨ra, rc, A⟩ := y; obtain ⟨hA, hrc, ho⟩ := hy))) <;> (try (refine wK ?_; intro _)))) | (refine rG 6 [2, 8, 9, 10] ?_; ((try (refine wK ?_; intro _)))) | refine ex_seq ?_ | refine ex_ret ?_ | refine ex_skip ?_ | refine ex_exit ?_ | refine ex_cond_t rfl ?_ | refine ex_cond_f rfl ?_ | refine ex_cond_t (congrArg Value.bool (by assumption)) ?_ | refine ex_cond_f (congrArg Value.bool (by assumption)) ?_ | (refine ex_split rfl ?_ ?_ <;> intro hc))
  have hA : A.length ≤ 40 := hA
  have hrc : A.length ≤ rc := hrc
  have hK1 : ∀ r ∈ A, RdP (orm A * orm raw) r.1 (r.2.2.2.2.2.2.1.1.flatMap oc) := fun r hr => (rd_orm r A hr).left _
  have hK2 : ∀ r ∈ raw, RdP (orm A * orm raw) r.1 (r.2.2.2.2.2.2.1.1.flatMap oc) := fun r hr => (rd_orm r raw hr).right _
  refine Ex.ent (H' := ow 41 15 ra A.length rc (A.flatMap ae) * ((orm A * orm raw) * (CO b s0 * rs a2 (raw.flatMap ae)))) ?_ ent_take
  generalize orm A * orm raw = K at *
  refine R.ex_cut (fun e H' => ∃ G, ∃ i : Nat, ∃ B : List At, ∃ rb, ∃ rd : Nat, ∃ v : Bool, e = put (put (put (put (put G 2 (.slice a2 raw.length c2)) 8 (.pointer (some ⟨b, 0, none⟩))) 9 (.slice rb B.length rd)) 10 (.int .i64 (i : Int))) 31 (.bool v) ∧ B.length ≤ 44 ∧ B.length ≤ rd ∧ (∀ r ∈ B, RdP K r.1 (r.2.2.2.2.2.2.1.1.flatMap oc) ∧ r.2.2.2.2.2.2.1.1.length ≤ 1000000) ∧
    Ent H' (ow 41 15 rb B.length rd (B.flatMap ae) * (K * CO b s0))) ?_ ?_
  · refine wC ?_
    refine ex_loopE (fun mm e H' => ∃ g, ∃ i : Nat, ∃ B : List At, ∃ rb, ∃ rd : Nat, e = put (put (put (put g 2 (.slice a2 raw.length c2)) 8 (.pointer (some ⟨b, 0, none⟩))) 9 (.slice rb B.length rd)) 10 (.int .i64 (i : Int)) ∧
      H' = ow 41 15 rb B.length rd (B.flatMap ae) * (K * (CO b s0 * rs a2 (raw.flatMap ae))) ∧ B.length ≤ 40 + i ∧ i ≤ 4 ∧ i ≤ raw.length ∧ (∀ r ∈ B, RdP K r.1 (r.2.2.2.2.2.2.1.1.flatMap oc) ∧ r.2.2.2.2.2.2.1.1.length ≤ 1000000) ∧ B.length ≤ rd ∧ mm = 4 - i) (m := 4) ⟨_, 0, A, ra, rc, rfl, rfl, by omega, by omega, by omega, fun r hr => ⟨hK1 r hr, Nat.le_trans (ho r hr).2.2 (by decide)⟩, hrc, rfl⟩ ?_ ?_
    · exact Ent.refl _
    · rintro mm e H' ⟨g, i, B, rb, rd, rfl, rfl, hB, hi4, hir, hBr, hrd, rfl⟩
      have ei : IntKind.i64.wrap ((i : Int) + 1) = ((i + 1 : Nat) : Int) := by rw [IntKind.wrap_i64]; omega
      by_cases hlt : i < raw.length ∧ i < 4
      · obtain ⟨hlt, hlt4⟩ := hlt
        have hd : decide ((i : Int) < (raw.length : Int)) = true := decide_eq_true (by omega)
        have hd4 : decide ((i : Int) < 4) = true := decide_eq_true (by omega)
        have h0 : 0 ≤ (i : Int) := by omega
        have h1 : (i : Int) < (raw.length : Int) := by omega
        refine Ex.rd_some (a := a2) (l := raw.flatMap ae) (by rw [flat_len ae_len]; omega) (fun ad ha2 => ?_)
        subst ha2
        have hv : sub (raw.flatMap ae) ((i : Int).toNat * 15) 15 = some (ae raw[i]) := by rw [Int.toNat_natCast]; exact sub_flat ae_len raw i hlt
        have hrw := hraw _ (List.getElem_mem hlt)
        have hKr := hK2 _ (List.getElem_mem hlt)
        generalize raw[i] = x at *
        obtain ⟨oa, oc0, kd, tn, fr, nn, ⟨os, p1, p2, p3, p4, p5⟩, i1⟩ := x
        have hrw : os.length ≤ oc0 := hrw
        have hKr : RdP K oa (os.flatMap oc) := hKr
        have hm8 : ∀ x : Int, x = (if (8 : Int) < (os.length : Int) then 8 else (os.length : Int)) → x = ((min os.length 8 : Nat) : Int) := by
          intro x hx
          rw [hx]
          split <;> omega
        repeat' (first | (refine rG 7 [2, 8, 9, 10, 31] ?_; ((try refine wO ?_) <;> (repeat' (refine g_split rfl (by decide) rfl (by decide) ?_ ?_ <;> intro hc <;> (try refine wO ?_))) <;> (try (refine wK ?_; intro _)))) | (refine ex_regk (id := 9) (ts := [2, 8, 9, 10, 11]) ?_; ((try (first | refine o_mv (v := .slice _ _ _) (by decide) rfl ?_ | refine o_mv (by decide) rfl ?_)) <;> (try (first | refine o_mv (v := .int _ _) (by decide) rfl ?_ | refine o_mv (by decide) rfl ?_)) <;> (try (refine o_index (by decide) rfl rfl (by first | decide | assumption | omega) (by first | decide | assumption | omega) ?_)) <;> (try (refine o_load_ra (vs := ae (oa, oc0, kd, tn, fr, nn, (os, p1, p2, p3, p4, p5), i1)) (by decide) rfl hv ?_)) <;> (try ((refine o_alloc_a (by decide) (fun b11 => ?_)))) <;> (try (first | refine o_store_a rfl rfl rfl rfl rfl ?_ | refine o_store_oa rfl rfl rfl (Nat.succ_pos _) rfl (by assumption) ?_)) <;> (try (refine ops_nilk ?_; intro _)) <;> (try ((first | refine keep_cons (v := .slice _ _ _) rfl ?_ | refine keep_cons (v := _) rfl ?_) <;> (first | refine keep_cons (v := .pointer _) rfl ?_ | refine keep_cons (v := _) rfl ?_) <;> (first | refine keep_cons (v := .slice _ _ _) rfl ?_ | refine keep_cons (v := _) rfl ?_) <;> (first | refine keep_cons (v := .int _ _) rfl ?_ | refine keep_cons (v := _) rfl ?_) <;> (first | refine keep_cons (v := .pointer _) rfl ?_ | refine keep_cons (v := _) rfl ?_))) <;> (try refine keep_nil ?_))) | refine wC ?_ | (refine ex_split rfl ?_ ?_ <;> intro hc))
        refine Ex.ent ?_ (ent_clL (b := b11) (l' := ae (oa, oc0, kd, tn, fr, nn, (os, p1, p2, p3, p4, p5), i1)) rfl)
        repeat' (first | (refine rG 10 [2, 8, 9, 10, 11] ?_; ((try refine wO ?_) <;> (try ((refine o_ownT 8 (cells := oc) (xs := os) oc_len (by decide) rfl rfl (hm8 _ rfl) hrw (fun a46 h46 => ?_)))) <;> (try (refine wK ?_; intro _)))) | refine wC ?_ | (refine ex_split rfl ?_ ?_ <;> intro hc))
        refine Ex.ent ?_ (ent_clL (b := b11) (l' := ae (a46, oc0, kd, tn, fr, nn, (os.take 8, p1, p2, p3, p4, p5), i1)) rfl)
        repeat' (first | (refine ex_regk (id := 11) (ts := [2, 8, 9, 10]) ?_; ((try (first | refine o_mv (v := .slice _ _ _) (by decide) rfl ?_ | refine o_mv (by decide) rfl ?_)) <;> (try (refine o_load_a (vs := ae (a46, oc0, kd, tn, fr, nn, (os.take 8, p1, p2, p3, p4, p5), i1)) (by decide) rfl rfl ?_)) <;> (try ((refine o_buildSlice (by decide) rfl rfl rfl (fun _ => ?_)))) <;> (try (refine o_appendT (cells := ae) (xs := B) (ys := [(a46, oc0, kd, tn, fr, nn, (os.take 8, p1, p2, p3, p4, p5), i1)]) ae_len ae_one (by decide) rfl rfl rfl rfl rfl (by simp only [List.length_cons, List.length_nil]; omega) (by simp only [maxLen, List.length_cons, List.length_nil]; omega) (fun a' cap' hc' => ?_))) <;> (try (first | refine o_as (v := .slice _ _ _) (by decide) rfl ?_ | refine o_as (by decide) rfl ?_)) <;> (try (refine ops_nilk ?_; intro _)) <;> (try ((first | refine keep_cons (v := .slice _ _ _) rfl ?_ | refine keep_cons (v := _) rfl ?_) <;> (first | refine keep_cons (v := .pointer _) rfl ?_ | refine keep_cons (v := _) rfl ?_) <;> (first | refine keep_cons (v := .slice _ _ _) rfl ?_ | refine keep_cons (v := _) rfl ?_) <;> (first | refine keep_cons (v := .int _ _) rfl ?_ | refine keep_cons (v := _) rfl ?_))) <;> (try refine keep_nil ?_))) | refine wC ?_ | (refine ex_split rfl ?_ ?_ <;> intro hc))
        repeat' (first | (refine rG 8 [2, 8, 9, 10] ?_; ((try (refine wK ?_; intro _)))) | refine wC ?_ | (refine ex_split rfl ?_ ?_ <;> intro hc))
        rw [ei]
        refine ⟨4 - (i + 1), by omega, _, ?_, _, i + 1, B ++ [(a46, oc0, kd, tn, fr, nn, (os.take 8, p1, p2, p3, p4, p5), i1)], a', cap', rfl, rfl, by rw [List.length_append]; show B.length + 1 ≤ _; omega, by omega, by omega, ?_, hc', rfl⟩
        · exact ent_take
        · intro q hq
          rcases List.mem_append.1 hq with hq | hq
          · exact hBr q hq
          · rw [List.mem_singleton.1 hq]
            have : RdC K oa (os.flatMap oc) := ⟨hKr⟩
            exact ⟨(h46 K).rd, by show (os.take 8).length ≤ _; rw [List.length_take]; omega⟩
      · have hdx : decide ((i : Int) < (raw.length : Int)) = false ∨ (decide ((i : Int) < (raw.length : Int)) = true ∧ decide ((i : Int) < 4) = false) := by
          by_cases h : i < raw.length
          · exact .inr ⟨decide_eq_true (by omega), decide_eq_false (by omega)⟩
          · exact .inl (decide_eq_false (by omega))
        rcases hdx with hd | ⟨hd, hd4⟩
        all_goals
          repeat' (first | (refine rG 7 [2, 8, 9, 10, 31] ?_; ((try refine wO ?_) <;> (repeat' (refine g_split rfl (by decide) rfl (by decide) ?_ ?_ <;> intro hc <;> (try refine wO ?_))) <;> (try (refine wK ?_; intro _)))) | refine wC ?_ | (refine ex_split rfl ?_ ?_ <;> intro hc))
          exact ⟨rfl, _, i, B, rb, rd, _, rfl, by omega, hrd, hBr, ent_take⟩
  · rintro e H' ⟨G, i0, B, rb, rd, v0, rfl, hB, hrd, hBr, hE⟩
    refine Ex.ent ?_ hE
    repeat' (first | (refine rG 12 [8, 53, 54, 55] ?_; ((try (refine wK ?_; intro _)))) | refine wC ?_ | (refine ex_split rfl ?_ ?_ <;> intro hc))
    refine ex_loopE (fun mm e H' => ∃ g, ∃ i : Nat, ∃ s : Cs, e = put (put (put (put g 8 (.pointer (some ⟨b, 0, none⟩))) 53 (.slice rb B.length rd)) 54 (.int .i64 (B.length : Int))) 55 (.int .i64 (i : Int)) ∧
      H' = ow 41 15 rb B.length rd (B.flatMap ae) * (K * CO b s) ∧ CsOk s (5 * i) ∧ s.qu ≤ 4000 ∧ i ≤ B.length ∧ mm = B.length - i) (m := B.length) ⟨_, 0, s0, rfl, rfl, ok0, hq0, by omega, by omega⟩ ?_ ?_
    · exact Ent.refl _
    · rintro mm e H' ⟨g, i, s, rfl, rfl, ok, hq, hi, rfl⟩
      have ei : IntKind.i64.wrap ((i : Int) + 1) = ((i + 1 : Nat) : Int) := by rw [IntKind.wrap_i64]; omega
      by_cases hlt : i < B.length
      · have hd : decide ((i : Int) < (B.length : Int)) = true := decide_eq_true (by omega)
        have h0 : 0 ≤ (i : Int) := by omega
        have h1 : (i : Int) < (B.length : Int) := by omega
        refine Ex.rd_some (a := rb) (l := B.flatMap ae) (by rw [flat_len ae_len]; omega) (fun ad ha2 => ?_)
        subst ha2
        have hv : sub (B.flatMap ae) ((i : Int).toNat * 15) 15 = some (ae B[i]) := by rw [Int.toNat_natCast]; exact sub_flat ae_len B i hlt
        obtain ⟨hKr, hop⟩ := hBr _ (List.getElem_mem hlt)
        generalize B[i] = x at *
        obtain ⟨oa, ob, a⟩ := x
        have htw := fun (X' H' : HP) (h : Take (CO b s) X' H') => coTwin b s (t := h) ok (by omega)
        have hdo1 := fun (aa : Option Addr) (X' H' R' : HP) (h1 : Take (CO b s) X' H') (h2 : RdC H' aa (acc oa ob a)) (h3 : Take K H' R') => coDo1 b s aa oa ob a 1 (t := h1) (hr := h2) (hro := by rw [h3.eq]; exact ⟨hKr.left R'⟩) hop ok (by omega)
        have key := ref_law ok a
        have ok' := doS_ok ok (by omega) hq a
        have hq' : (doS a s).1.qu ≤ 4000 := by rw [(doS_same ok a).2.2.1]; exact hq
        have okm := ok.mono (show 5 * i ≤ 5 * i + 5 by omega)
        generalize doS a s = D at *
        obtain ⟨s', er, rows, rels⟩ := D
        obtain ⟨⟨e0, e6⟩, hsim⟩ := key
        have e0 : 0 ≤ er := e0
        have e6 : er ≤ 6 := e6
        have ok' : CsOk s' (5 * i + 5) := ok'
        have hd0 : decide (er < 0) = false := decide_eq_false (by omega)
        have hd8 : decide (er > 8) = false := decide_eq_false (by omega)
        repeat' (first | (refine rG 13 [8, 53, 54, 55, 56] ?_; ((try (refine wK ?_; intro _)))) | (refine ex_regk (id := 14) (ts := [8, 13, 53, 54, 55]) ?_; ((try (refine o_index (by decide) rfl rfl (by first | decide | assumption | omega) (by first | decide | assumption | omega) ?_)) <;> (try (refine o_load_ra (vs := ae (oa, ob, a)) (by decide) rfl hv ?_)) <;> (try ((refine o_alloc_a (by decide) (fun b13 => ?_)))) <;> (try (first | refine o_store_a rfl rfl rfl rfl rfl ?_ | refine o_store_oa rfl rfl rfl (Nat.succ_pos _) rfl (by assumption) ?_)) <;> (try (refine ops_nilk ?_; intro _)) <;> (try ((first | refine keep_cons (v := .pointer _) rfl ?_ | refine keep_cons (v := _) rfl ?_) <;> (first | refine keep_cons (v := .pointer _) rfl ?_ | refine keep_cons (v := _) rfl ?_) <;> (first | refine keep_cons (v := .slice _ _ _) rfl ?_ | refine keep_cons (v := _) rfl ?_) <;> (first | refine keep_cons (v := .int _ _) rfl ?_ | refine keep_cons (v := _) rfl ?_) <;> (first | refine keep_cons (v := .int _ _) rfl ?_ | refine keep_cons (v := _) rfl ?_))) <;> (try refine keep_nil ?_))) | refine wC ?_ | (refine ex_split rfl ?_ ?_ <;> intro hc))
        refine Ex.ent ?_ (ent_clL (b := b13) (l' := ae (oa, ob, a)) rfl)
        repeat' (first | (refine rG 15 [8, 13, 14, 53, 54, 55] ?_; ((try refine wO ?_) <;> (try ((refine o_callH (htw _ _ inferInstance) (by first | exact True.intro | (show _ < _; decide)) rfl rfl (fun b2 _ => ?_)))) <;> (try (refine wK ?_; intro _)))) | (refine rG 16 [8, 13, 14, 53, 54, 55, 62] ?_; ((try (refine wK ?_; intro _)))) | refine wC ?_ | (refine ex_split rfl ?_ ?_ <;> intro hc))
        repeat' (first | (refine ex_regk (id := 18) (ts := [8, 14, 15, 53, 54, 55]) ?_; ((try (first | refine o_mv (v := .pointer _) (by decide) rfl ?_ | refine o_mv (by decide) rfl ?_)) <;> (try (refine o_load_a (vs := ae (oa, ob, a)) (by decide) rfl rfl ?_)) <;> (try ((refine o_buildSlice (by decide) rfl rfl rfl (fun _ => ?_)))) <;> (try ((refine o_callH (hdo1 _ _ _ _ inferInstance inferInstance inferInstance) (by first | exact True.intro | (show _ < _; decide)) rfl rfl (fun y hy => ?_); obtain ⟨ya, yc, ⟨⟨pa, pc_⟩, qa, qc⟩⟩ := y))) <;> (try (first | refine o_as (v := .slice _ _ _) (by decide) rfl ?_ | refine o_as (by decide) rfl ?_)) <;> (try (refine ops_nilk ?_; intro _)) <;> (try ((first | refine keep_cons (v := .pointer _) rfl ?_ | refine keep_cons (v := _) rfl ?_) <;> (first | refine keep_cons (v := .pointer _) rfl ?_ | refine keep_cons (v := _) rfl ?_) <;> (first | refine keep_cons (v := .slice _ _ _) rfl ?_ | refine keep_cons (v := _) rfl ?_) <;> (first | refine keep_cons (v := .slice _ _ _) rfl ?_ | refine keep_cons (v := _) rfl ?_) <;> (first | refine keep_cons (v := .int _ _) rfl ?_ | refine keep_cons (v := _) rfl ?_) <;> (first | refine keep_cons (v := .int _ _) rfl ?_ | refine keep_cons (v := _) rfl ?_))) <;> (try refine keep_nil ?_))) | refine wC ?_ | (refine ex_split rfl ?_ ?_ <;> intro hc))
        refine Ex.rd_some (a := ya) (l := anc ((pa, pc_), (qa, qc)) (er, rows, rels)) (Nat.succ_pos _) (fun yd ha => ?_)
        subst ha
        have hv0 : (anc ((pa, pc_), (qa, qc)) (er, rows, rels))[(0 : Int).toNat * 3 + 0]? = some (.int .i64 er) := rfl
        have hv1 : (anc ((pa, pc_), (qa, qc)) (er, rows, rels))[(0 : Int).toNat * 3 + 1]? = some (.slice pa rows.length pc_) := rfl
        have hv2 : (anc ((pa, pc_), (qa, qc)) (er, rows, rels))[(0 : Int).toNat * 3 + 2]? = some (.slice qa rels.length qc) := rfl
        by_cases hz0 : er = 0
        · have hne : (er != 0) = false := by rw [hz0]; rfl
          repeat' (first | (refine rG 19 [8, 14, 15, 53, 54, 55, 83] ?_; ((try refine wO ?_) <;> (repeat' (refine g_split rfl (by decide) rfl (by decide) ?_ ?_ <;> intro hc <;> (try refine wO ?_))) <;> (try (refine wK ?_; intro _)))) | (refine rG 21 [8, 53, 54, 55, 110] ?_; ((try refine wO ?_) <;> (repeat' (refine g_split rfl (by decide) rfl (by decide) ?_ ?_ <;> intro hc <;> (try refine wO ?_))) <;> (try (skip)) <;> (try refine wO ?_) <;> (repeat' (refine g_split rfl (by decide) rfl (by decide) ?_ ?_ <;> intro hc <;> (try refine wO ?_))) <;> (try (refine wK ?_; intro _)))) | (refine rG 23 [8, 53, 54, 55] ?_; ((try (refine wK ?_; intro _)))) | refine wC ?_ | (refine ex_split rfl ?_ ?_ <;> intro hc))
          rw [ei]
          refine ⟨B.length - (i + 1), by omega, _, ?_, _, i + 1, s', rfl, rfl, ok', hq', by omega, rfl⟩
          exact ent_take
        · have hne : (er != 0) = true := by simpa using hz0
          obtain ⟨hs, hr0, hl0⟩ := hsim hz0
          have hr0 : rows = [] := hr0
          have hl0 : rels = [] := hl0
          subst hr0
          subst hl0
          have halike := fun (X' H' : HP) (h : Take (CO b2 s * CO b s') X' H') => topAlike b2 b s s' (t := h) okm ok' (by omega) hs
          repeat' (first | (refine rG 19 [8, 14, 15, 53, 54, 55, 83] ?_; ((try refine wO ?_) <;> (repeat' (refine g_split rfl (by decide) rfl (by decide) ?_ ?_ <;> intro hc <;> (try refine wO ?_))) <;> (try (refine wK ?_; intro _)))) | (refine rG 21 [8, 53, 54, 55, 110] ?_; ((try refine wO ?_) <;> (repeat' (refine g_split rfl (by decide) rfl (by decide) ?_ ?_ <;> intro hc <;> (try refine wO ?_))) <;> (try ((refine o_callH (halike _ _ inferInstance) (by first | exact True.intro | (show _ < _; decide)) rfl rfl (fun _ _ => ?_)))) <;> (try refine wO ?_) <;> (repeat' (refine g_split rfl (by decide) rfl (by decide) ?_ ?_ <;> intro hc <;> (try refine wO ?_))) <;> (try (refine wK ?_; intro _)))) | (refine rG 23 [8, 53, 54, 55] ?_; ((try (refine wK ?_; intro _)))) | refine wC ?_ | (refine ex_split rfl ?_ ?_ <;> intro hc))
          rw [ei]
          refine ⟨B.length - (i + 1), by omega, _, ?_, _, i + 1, s', rfl, rfl, ok', hq', by omega, rfl⟩
          exact ent_take
      · have hd : decide ((i : Int) < (B.length : Int)) = false := decide_eq_false (by omega)
        repeat' (first | (refine rG 13 [8, 53, 54, 55, 56] ?_; ((try (refine wK ?_; intro _)))) | (refine rG 24 [6] ?_; ((try ((refine o_call awakeK (by first | exact True.intro | (show _ < _; decide)) rfl rfl (fun _ _ => ?_)))) <;> (try (refine wK ?_; intro _)))) | refine wC ?_ | (refine ex_split rfl ?_ ?_ <;> intro hc))
        exact fin (.inr rfl) () (resl1 rfl (rv_tmp rfl)) trivial (Ent.toOne _)
end Go.Proofs.YtcelailgedndnaaGreatS
