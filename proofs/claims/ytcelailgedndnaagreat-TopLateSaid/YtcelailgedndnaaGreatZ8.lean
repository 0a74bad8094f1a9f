/- Contracts of the functions that the statement reaches: the walk of the program by the small logic, part 8: RS2, T3, T4, T5p, QH, RS3, T5, TS. No condition beyond what each theorem states. -/
import Derived.Test.YtcelailgedndnaaGreatZ7
namespace Go.Proofs.YtcelailgedndnaaGreatS.R
open Go.Proofs.YtcelailgedndnaaGreatS
open Go.RowKit Go.ChangeShapes Go.WideShapes
set_option linter.unusedVariables false
set_option linter.unusedSimpArgs false
set_option maxRecDepth 100000
theorem list6 {α : Type} {l : List α} (h : l.length = 6) : ∃ a b c d e f, l = [a, b, c, d, e, f] := by
  match l, h with
  | [a, b, c, d, e, f], _ => exact ⟨a, b, c, d, e, f, rfl⟩
/-- Numbers of which an input is made: time, key, value, mark. -/
abbrev Qn : Type := Int × Int × Int × Int
def nc (q : Qn) : List Value := [.int .i64 q.1, .int .i64 q.2.1, .int .i64 q.2.2.1, .int .i64 q.2.2.2]
theorem nc_len (q : Qn) : (nc q).length = 4 := rfl
theorem nc_one (q : Qn) : ∀ v ∈ nc q, v.oneCell' = true := by intro v hv; simp [nc] at hv; rcases hv with rfl | rfl | rfl | rfl <;> rfl
theorem shapeN {H : Type} {enc : TypeId × Value → H} {W : World} {base : Nat} {held : Bool} : ∀ n cs y, DataW.trod enc Tryz.prog W base (fun _ => true) held n 118 cs = some y → ∃ q : Qn, cs = nc q := by
  intro n cs y h
  have c3 : Tryz.prog.cellsOf 3 = 1 := by kernel_rfl
  have c43 : Tryz.prog.cellsOf 118 = 4 := by kernel_rfl
  obtain ⟨z0, z1, z2, z3, n2, _, hl, g0, g1, g2, g3⟩ := Go.Joins.trod_struct4 Tryz.underlying118 h
  obtain ⟨m0, e0, _, w0⟩ := DataW.trod_int Tryz.underlying3 g0
  obtain ⟨m1, e1, _, w1⟩ := DataW.trod_int Tryz.underlying3 g1
  obtain ⟨m2, e2, _, w2⟩ := DataW.trod_int Tryz.underlying3 g2
  obtain ⟨m3, e3, _, w3⟩ := DataW.trod_int Tryz.underlying3 g3
  rw [c43] at hl
  match cs, hl with
  | [v0, v1, v2, v3], _ =>
    simp [c3] at e0 e1 e2 e3
    subst e0; subst e1; subst e2; subst e3
    exact ⟨(m0, m1, m2, m3), rfl⟩
theorem openN {H : Type} {enc : TypeId × Value → H} {W : World} {b0 base : Nat} {held : Bool} {v : Value} {d : DataW H} {p : List MemPlace} (hv : Value.okWide Tryz.prog W .any b0 118 v) (h : DataW.Trod enc Tryz.prog W base (fun _ => true) held 118 v d p) :
    ∃ x : Qn, v = .agg (nc x).toArray ∧ True := by
  obtain ⟨cs, rfl, hsz⟩ := okWide_struct Tryz.underlying118 hv
  obtain ⟨l⟩ := cs
  obtain ⟨fuel, hf⟩ := h
  obtain ⟨q, hq⟩ := shapeN _ _ _ hf
  have hq : l = nc q := hq
  subst hq
  exact ⟨q, rfl, trivial⟩
theorem shapeKP {H : Type} {enc : TypeId × Value → H} {W : World} {base : Nat} {held : Bool} : ∀ n cs y, DataW.trod enc Tryz.prog W base (fun _ => true) held n 116 cs = some y → ∃ k : Pk, cs = pc k ∧ Fits W (pm k) := by
  intro n cs y h
  have c3 : Tryz.prog.cellsOf 3 = 1 := by kernel_rfl
  have c36 : Tryz.prog.cellsOf 76 = 1 := by kernel_rfl
  have c42 : Tryz.prog.cellsOf 116 = 7 := by kernel_rfl
  obtain ⟨xs, n, _, _, hl, hlen, hfl⟩ := DataW.trod_struct Tryz.underlying116 h
  obtain ⟨v0, v1, v2, v3, v4, v5, v6, rfl⟩ := list7 (hl.trans c42)
  obtain ⟨y0, y1, y2, y3, y4, y5, y6, rfl⟩ := list7 (show xs.length = 7 from hlen)
  have h0 := hfl 0 _ rfl
  have h1 := hfl 1 _ rfl
  have h2 := hfl 2 _ rfl
  have h3 := hfl 3 _ rfl
  have h4 := hfl 4 _ rfl
  have h5 := hfl 5 _ rfl
  have h6 := hfl 6 _ rfl
  simp only [List.getElem?_cons_zero, List.getElem?_cons_succ] at h0 h1 h2 h3 h4 h5 h6
  obtain ⟨r0, e0, f0⟩ := openIl h0
  obtain ⟨r1, e1, f1⟩ := openIl h1
  obtain ⟨m2, e2, _, _⟩ := DataW.trod_int Tryz.underlying3 h2
  obtain ⟨m3, e3, _, _⟩ := DataW.trod_int Tryz.underlying3 h3
  obtain ⟨m4, e4, _, _⟩ := DataW.trod_int Tryz.underlying3 h4
  obtain ⟨m5, e5, _, _⟩ := DataW.trod_int Tryz.underlying3 h5
  obtain ⟨m6, e6, _, _⟩ := DataW.trod_int Tryz.underlying3 h6
  simp [c3, c36] at e0 e1 e2 e3 e4 e5 e6
  subst e0; subst e1; subst e2; subst e3; subst e4; subst e5; subst e6
  exact ⟨(r0, r1, m2, m3, m4, m5, m6), rfl, Fits.mul f0 f1⟩
/-- Numbers of which an act is made. -/
abbrev Kn : Type := Int × Int × Int × Int × Pk × Qn
def kac (x : Kn) : List Value := [.int .i64 x.1, .int .i64 x.2.1, .int .i64 x.2.2.1, .int .i64 x.2.2.2.1] ++ (pc x.2.2.2.2.1 ++ nc x.2.2.2.2.2)
theorem kac_len (x : Kn) : (kac x).length = 15 := rfl
theorem openKA {H : Type} {enc : TypeId × Value → H} {W : World} {b0 base : Nat} {held : Bool} {v : Value} {d : DataW H} {p : List MemPlace} (hv : Value.okWide Tryz.prog W .any b0 120 v) (h : DataW.Trod enc Tryz.prog W base (fun _ => true) held 120 v d p) :
    ∃ x : Kn, v = .agg (kac x).toArray ∧ Fits W (pm x.2.2.2.2.1) := by
  obtain ⟨cs, rfl, hsz⟩ := okWide_struct Tryz.underlying120 hv
  have c3 : Tryz.prog.cellsOf 3 = 1 := by kernel_rfl
  have c41 : Tryz.prog.cellsOf 116 = 7 := by kernel_rfl
  have c43 : Tryz.prog.cellsOf 118 = 4 := by kernel_rfl
  have c52 : Tryz.prog.cellsOf 120 = 15 := by kernel_rfl
  obtain ⟨l⟩ := cs
  obtain ⟨fuel, hf⟩ := h
  obtain ⟨xs, n, _, _, hl, hlen, hfl⟩ := DataW.trod_struct Tryz.underlying120 hf
  obtain ⟨y0, y1, y2, y3, y4, y5, rfl⟩ := list6 (show xs.length = 6 from hlen)
  have h0 := hfl 0 _ rfl
  have h1 := hfl 1 _ rfl
  have h2 := hfl 2 _ rfl
  have h3 := hfl 3 _ rfl
  have h4 := hfl 4 _ rfl
  have h5 := hfl 5 _ rfl
  simp only [List.getElem?_cons_zero, List.getElem?_cons_succ] at h0 h1 h2 h3 h4 h5
  obtain ⟨m0, e0, _, w0⟩ := DataW.trod_int Tryz.underlying3 h0
  obtain ⟨m1, e1, _, w1⟩ := DataW.trod_int Tryz.underlying3 h1
  obtain ⟨m2, e2, _, w2⟩ := DataW.trod_int Tryz.underlying3 h2
  obtain ⟨m3, e3, _, w3⟩ := DataW.trod_int Tryz.underlying3 h3
  obtain ⟨k, e4, hg⟩ := shapeKP _ _ _ h4
  obtain ⟨q, e5⟩ := shapeN _ _ _ h5
  have hl : l.length = 15 := hl.trans c52
  match l, hl with
  | [v0, v1, v2, v3, v4, v5, v6, v7, v8, v9, v10, v11, v12, v13, v14], _ =>
    simp [Value.cells, c3, c41, c43, pc, nc] at e0 e1 e2 e3 e4 e5
    obtain ⟨rfl, rfl, rfl, rfl, rfl, rfl, rfl⟩ := e4
    obtain ⟨rfl, rfl, rfl, rfl⟩ := e5
    subst e0; subst e1; subst e2; subst e3
    exact ⟨(m0, m1, m2, m3, k, q), rfl, hg⟩
theorem ex_cut {P : Program} {n : Nat} {c : Code} {e : Env} {H : HP} {Φ : Post} (I : Env → HP → Prop) (h1 : Ex P n c e H (fun x e H => x = .normal ∧ I e H)) (h2 : ∀ e H, I e H → Φ .normal e H) : Ex P n c e H Φ :=
  Ex.mono h1 fun x e H ⟨hx, hi⟩ => by subst hx; exact h2 e H hi
theorem list5 {α : Type} {l : List α} (h : l.length = 5) : ∃ a b c d e, l = [a, b, c, d, e] := by
  match l, h with
  | [a, b, c, d, e], _ => exact ⟨a, b, c, d, e, rfl⟩
theorem openSK {H : Type} {enc : TypeId × Value → H} {W : World} {b0 base : Nat} {spare : Nat → Bool} {held : Bool} {v : Value} {d : DataW H} {p : List MemPlace} (hv : Value.okWide Tryz.prog W .any b0 141 v) (h : DataW.Trod enc Tryz.prog W base spare held 141 v d p) :
    ∃ k : Kk, v = .agg (kc k).toArray ∧ True := by
  obtain ⟨cs, rfl, hsz⟩ := okWide_struct Tryz.underlying141 hv
  have c3 : Tryz.prog.cellsOf 3 = 1 := by kernel_rfl
  have c42 : Tryz.prog.cellsOf 141 = 5 := by kernel_rfl
  obtain ⟨l⟩ := cs
  obtain ⟨v0, v1, v2, v3, v4, rfl⟩ := list5 (show l.length = 5 from hsz.trans c42)
  obtain ⟨fuel, hf⟩ := h
  obtain ⟨xs, n, _, _, hl, hlen, hfl⟩ := DataW.trod_struct Tryz.underlying141 hf
  obtain ⟨y0, y1, y2, y3, y4, rfl⟩ := list5 (show xs.length = 5 from hlen)
  have h0 := hfl 0 _ rfl
  have h1 := hfl 1 _ rfl
  have h2 := hfl 2 _ rfl
  have h3 := hfl 3 _ rfl
  have h4 := hfl 4 _ rfl
  simp only [List.getElem?_cons_zero, List.getElem?_cons_succ] at h0 h1 h2 h3 h4
  obtain ⟨m0, e0, _, _⟩ := DataW.trod_int Tryz.underlying3 h0
  obtain ⟨m1, e1, _, _⟩ := DataW.trod_int Tryz.underlying3 h1
  obtain ⟨m2, e2, _, _⟩ := DataW.trod_int Tryz.underlying3 h2
  obtain ⟨m3, e3, _, _⟩ := DataW.trod_int Tryz.underlying3 h3
  obtain ⟨m4, e4, _, _⟩ := DataW.trod_int Tryz.underlying3 h4
  simp [Value.cells, c3] at e0 e1 e2 e3 e4
  subst e0; subst e1; subst e2; subst e3; subst e4
  exact ⟨(m0, m1, m2, m3, m4), rfl, trivial⟩
theorem shapeSK {H : Type} {enc : TypeId × Value → H} {W : World} {base : Nat} {held : Bool} : ∀ n cs y, DataW.trod enc Tryz.prog W base (fun _ => true) held n 141 cs = some y → ∃ k : Kk, cs = kc k ∧ True := by
  intro n cs y h
  have c3 : Tryz.prog.cellsOf 3 = 1 := by kernel_rfl
  have c42 : Tryz.prog.cellsOf 141 = 5 := by kernel_rfl
  obtain ⟨xs, n, _, _, hl, hlen, hfl⟩ := DataW.trod_struct Tryz.underlying141 h
  obtain ⟨v0, v1, v2, v3, v4, rfl⟩ := list5 (show cs.length = 5 from hl.trans c42)
  obtain ⟨y0, y1, y2, y3, y4, rfl⟩ := list5 (show xs.length = 5 from hlen)
  have h0 := hfl 0 _ rfl
  have h1 := hfl 1 _ rfl
  have h2 := hfl 2 _ rfl
  have h3 := hfl 3 _ rfl
  have h4 := hfl 4 _ rfl
  simp only [List.getElem?_cons_zero, List.getElem?_cons_succ] at h0 h1 h2 h3 h4
  obtain ⟨m0, e0, _, _⟩ := DataW.trod_int Tryz.underlying3 h0
  obtain ⟨m1, e1, _, _⟩ := DataW.trod_int Tryz.underlying3 h1
  obtain ⟨m2, e2, _, _⟩ := DataW.trod_int Tryz.underlying3 h2
  obtain ⟨m3, e3, _, _⟩ := DataW.trod_int Tryz.underlying3 h3
  obtain ⟨m4, e4, _, _⟩ := DataW.trod_int Tryz.underlying3 h4
  simp [c3] at e0 e1 e2 e3 e4
  subst e0; subst e1; subst e2; subst e3; subst e4
  exact ⟨(m0, m1, m2, m3, m4), rfl, trivial⟩
end Go.Proofs.YtcelailgedndnaaGreatS.R
namespace Go.Proofs.YtcelailgedndnaaGreatS
open Go.RowKit
set_option linter.unusedVariables false
set_option linter.unusedSimpArgs false
/-- An act that numbers make. -/
def actok (r : At) : Prop := (1 ≤ r.2.2.1 ∧ r.2.2.1 ≤ 5) ∧ (0 ≤ r.2.2.2.1 ∧ r.2.2.2.1 ≤ 3) ∧ r.2.2.2.2.2.2.1.1.length ≤ 6
theorem actok_mk {o : Option Addr} {c : Nat} {k t f n : Int} {p : Pp} {i : In} (h1 : 1 ≤ k) (h2 : k ≤ 5) (h3 : 0 ≤ t ∧ t ≤ 3) (h4 : p.1.length ≤ 6) : actok (o, c, (k, t, f, n, p, i)) := ⟨⟨h1, h2⟩, h3, h4⟩
theorem ae_one (r : At) : ∀ v ∈ ae r, v.oneCell' = true := by
  have h : (ae r).all (fun v => v.oneCell') = true := rfl
  exact List.all_eq_true.1 h
set_option linter.unusedVariables false
set_option linter.unusedSimpArgs false
attribute [local irreducible] Ops Ex Spec T V QO OA Rn OS
def orr (r : At) : HP := rs r.1 (r.2.2.2.2.2.2.1.1.flatMap oc)
def orm : List At → HP
  | [] => 1
  | r :: l => orr r * orm l
theorem orm_snoc : ∀ (l : List At) (x : At), orm (l ++ [x]) = orm l * orr x
  | [], x => (sep_one _).trans (one_sep _).symm
  | y :: l, x => by
    show orr y * orm (l ++ [x]) = orr y * orm l * orr x
    rw [orm_snoc l x, sep_assoc]
theorem rd_orr (r : At) : RdP (orr r) r.1 (r.2.2.2.2.2.2.1.1.flatMap oc) := rd_rs _ _
theorem rd_orm (r : At) : ∀ (l : List At), r ∈ l → RdP (orm l) r.1 (r.2.2.2.2.2.2.1.1.flatMap oc) := by
  intro l
  induction l with
  | nil => intro h; simp at h
  | cons y l ih =>
    intro h
    rcases List.mem_cons.1 h with h | h
    · rw [← h]; exact (rd_orr r).left (orm l)
    · exact (ih h).right (orr y)
set_option maxHeartbeats 8000000 in
theorem inputs1 (H : HP) (a : Option Addr) (c : Nat) (q : R.Qn) [ha : RdC H a (R.nc q)] : Spec Tryz.prog 44 [.slice a 1 c] H (X := Addr × Nat × In) (fun y => .slice (some y.1) 1 y.2.1) (fun y => 1 ≤ y.2.1) (fun y => ow 39 5 (some y.1) 1 y.2.1 (inc y.2.2) * H) := by
  obtain ⟨tm, ky, vl, mk⟩ := q
  have b5 := wn_bd mk 0 7 (by omega)
  have b50 : 0 ≤ wn mk 0 7 := b5.1
  have hbt := bt_U (wn mk 0 7) b5.1 (by omega)
  have hv : sub (R.nc (tm, ky, vl, mk)) ((0 : Int).toNat * 4) 4 = some (R.nc (tm, ky, vl, mk)) := rfl
  have e1 : IntKind.i64.wrap (0 + 1) = 1 := rfl
  have d0 : decide ((0 : Int) < 1) = true := rfl
  have d25 : decide ((0 : Int) < 25) = true := rfl
  have d1 : decide ((1 : Int) < 1) = false := rfl
  refine spec_of Tryz.func44 rfl Tryz.ntmps44 rfl ?_
  refine Ex.rd_some (a := a) (l := R.nc (tm, ky, vl, mk)) (Nat.succ_pos _) (fun ad hha => ?_)
  subst hha
  repeat' (first | (refine rG 0 [0] ?_; ((try (refine wK ?_; intro _)))) | (refine rG 1 [0, 3] ?_; ((try (refine wK ?_; intro _)))) | (refine rG 2 [0, 3, 4] ?_; ((try (refine wK ?_; intro _)))) | refine wC ?_ | (refine ex_split rfl ?_ ?_ <;> intro hc))
  refine Ex.ent ?_ (Ent.ow_none 39 5 _)
  refine ex_rounds 2 ?_
  refine rn_succ ?_
  repeat' (first | (refine rG 3 [0, 3, 4, 13] ?_; ((try refine wO ?_) <;> (repeat' (refine g_split rfl (by decide) rfl (by decide) ?_ ?_ <;> intro hc <;> (try refine wO ?_))) <;> (try (refine wK ?_; intro _)))) | (refine ex_regk (id := 5) (ts := [0, 3, 4, 5]) ?_; ((try (first | refine o_mv (v := .slice _ _ _) (by decide) rfl ?_ | refine o_mv (by decide) rfl ?_)) <;> (try (first | refine o_mv (v := .int _ _) (by decide) rfl ?_ | refine o_mv (by decide) rfl ?_)) <;> (try (refine o_index (by decide) rfl rfl (by first | decide | assumption | omega) (by first | decide | assumption | omega) ?_)) <;> (try (refine o_load_ra (vs := R.nc (tm, ky, vl, mk)) (by decide) rfl hv ?_)) <;> (try ((refine o_alloc_a (by decide) (fun b5 => ?_)))) <;> (try (first | refine o_store_a rfl rfl rfl rfl rfl ?_ | refine o_store_oa rfl rfl rfl (Nat.succ_pos _) rfl (by assumption) ?_)) <;> (try (refine ops_nilk ?_; intro _)) <;> (try ((first | refine keep_cons (v := .slice _ _ _) rfl ?_ | refine keep_cons (v := _) rfl ?_) <;> (first | refine keep_cons (v := .slice _ _ _) rfl ?_ | refine keep_cons (v := _) rfl ?_) <;> (first | refine keep_cons (v := .int _ _) rfl ?_ | refine keep_cons (v := _) rfl ?_) <;> (first | refine keep_cons (v := .pointer _) rfl ?_ | refine keep_cons (v := _) rfl ?_))) <;> (try refine keep_nil ?_))) | refine wC ?_ | (refine ex_split rfl ?_ ?_ <;> intro hc))
  refine Ex.ent ?_ (ent_clL (b := b5) (l' := R.nc (tm, ky, vl, mk)) rfl)
  cases hm : (Go.bits .and .i64 mk 3 == 3) with
  | true =>
    repeat' (first | (refine ex_regk (id := 6) (ts := [0, 3, 4, 5, 23]) ?_; ((try (refine o_fieldAddr' (by decide) rfl ?_)) <;> (try (first | refine o_load_s (v := .int _ _) (by decide) rfl rfl ?_ | refine o_load_s (by decide) rfl rfl ?_ | refine o_load_r (by decide) rfl (by assumption) ?_ | refine o_load_r (v := .int _ _) (by decide) rfl rfl ?_)) <;> (try (refine o_int (by decide) rfl rfl rfl ?_)) <;> (try ((refine o_int (by decide) rfl rfl rfl ?_; rw [hm]))) <;> (try (refine ops_nilk ?_; intro _)) <;> (try ((first | refine keep_cons (v := .slice _ _ _) rfl ?_ | refine keep_cons (v := _) rfl ?_) <;> (first | refine keep_cons (v := .slice _ _ _) rfl ?_ | refine keep_cons (v := _) rfl ?_) <;> (first | refine keep_cons (v := .int _ _) rfl ?_ | refine keep_cons (v := _) rfl ?_) <;> (first | refine keep_cons (v := .pointer _) rfl ?_ | refine keep_cons (v := _) rfl ?_) <;> (first | refine keep_cons (v := .bool _) rfl ?_ | refine keep_cons (v := _) rfl ?_))) <;> (try refine keep_nil ?_))) | (refine ex_regk (id := 7) (ts := [0, 3, 4]) ?_; ((try (first | refine o_mv (v := .slice _ _ _) (by decide) rfl ?_ | refine o_mv (by decide) rfl ?_)) <;> (try (refine o_fieldAddr' (by decide) rfl ?_)) <;> (try (first | refine o_load_s (v := .int _ _) (by decide) rfl rfl ?_ | refine o_load_s (by decide) rfl rfl ?_ | refine o_load_r (by decide) rfl (by assumption) ?_ | refine o_load_r (v := .int _ _) (by decide) rfl rfl ?_)) <;> (try (refine o_call (within _ _ _ (by decide) (by decide) (by decide) (by decide)) (by first | exact True.intro | (show _ < _; decide)) rfl rfl (fun _ _ => ?_))) <;> (try (refine o_build (cells := R.ec (wn tm 0 160, 0, 0, 0)) (by decide) rfl ?_)) <;> (try (refine o_build (cells := inc (true, wn tm 0 160, 0, 0, 0)) (by decide) rfl ?_)) <;> (try ((refine o_buildSlice (by decide) rfl rfl rfl (fun _ => ?_)))) <;> (try (refine o_appendT (cells := inc) (xs := []) (ys := [(true, wn tm 0 160, 0, 0, 0)]) inc_len inc_one (by decide) rfl rfl rfl rfl rfl (by simp) (by simp [maxLen]) (fun a' cap' hc' => ?_))) <;> (try (first | refine o_as (v := .slice _ _ _) (by decide) rfl ?_ | refine o_as (by decide) rfl ?_)) <;> (try (refine ops_nilk ?_; intro _)) <;> (try ((first | refine keep_cons (v := .slice _ _ _) rfl ?_ | refine keep_cons (v := _) rfl ?_) <;> (first | refine keep_cons (v := .slice _ _ _) rfl ?_ | refine keep_cons (v := _) rfl ?_) <;> (first | refine keep_cons (v := .int _ _) rfl ?_ | refine keep_cons (v := _) rfl ?_))) <;> (try refine keep_nil ?_))) | (refine rG 4 [0, 3, 4] ?_; ((try (refine wK ?_; intro _)))) | refine wC ?_ | (refine ex_split rfl ?_ ?_ <;> intro hc))
    rw [e1]
    refine rn_succ ?_
    refine Ex.rd_some (a := a') (l := ([] ++ [((true, wn tm 0 160, 0, 0, 0) : In)]).flatMap inc) (by simp [inc]) (fun ad2 ha2 => ?_)
    subst ha2
    repeat' (first | (refine rG 3 [0, 3, 4, 13] ?_; ((try refine wO ?_) <;> (repeat' (refine g_split rfl (by decide) rfl (by decide) ?_ ?_ <;> intro hc <;> (try refine wO ?_))) <;> (try (refine wK ?_; intro _)))) | (refine rG 9 [2] ?_; ((try (refine wK ?_; intro _)))) | refine wC ?_ | (refine ex_split rfl ?_ ?_ <;> intro hc))
    refine fin (.inr rfl) (ad2, cap', (true, wn tm 0 160, 0, 0, 0)) (resl1 rfl (rv_tmp rfl)) hc' ?_
    refine Ent.trans (show Ent _ (ow 39 5 (some ad2) 1 cap' (inc (true, wn tm 0 160, 0, 0, 0)) * _) from Ent.refl _) ?_
    exact ent_take
  | false =>
    repeat' (first | (refine ex_regk (id := 6) (ts := [0, 3, 4, 5, 23]) ?_; ((try (refine o_fieldAddr' (by decide) rfl ?_)) <;> (try (first | refine o_load_s (v := .int _ _) (by decide) rfl rfl ?_ | refine o_load_s (by decide) rfl rfl ?_ | refine o_load_r (by decide) rfl (by assumption) ?_ | refine o_load_r (v := .int _ _) (by decide) rfl rfl ?_)) <;> (try (refine o_int (by decide) rfl rfl rfl ?_)) <;> (try ((refine o_int (by decide) rfl rfl rfl ?_; rw [hm]))) <;> (try (refine ops_nilk ?_; intro _)) <;> (try ((first | refine keep_cons (v := .slice _ _ _) rfl ?_ | refine keep_cons (v := _) rfl ?_) <;> (first | refine keep_cons (v := .slice _ _ _) rfl ?_ | refine keep_cons (v := _) rfl ?_) <;> (first | refine keep_cons (v := .int _ _) rfl ?_ | refine keep_cons (v := _) rfl ?_) <;> (first | refine keep_cons (v := .pointer _) rfl ?_ | refine keep_cons (v := _) rfl ?_) <;> (first | refine keep_cons (v := .bool _) rfl ?_ | refine keep_cons (v := _) rfl ?_))) <;> (try refine keep_nil ?_))) | refine wC ?_ | (refine ex_split rfl ?_ ?_ <;> intro hc))
    repeat' (first | (refine rA 8 [0, 3, 4] 19 ?_; (refine os_butO (el := 39) (sz := 5) 3 rfl ?_); ((refine lQ 0 ?_; ((refine lQ 1 ?_; ((refine lQ 2 ?_; ((refine lC (v := ?_) 3 ?_ ?_; rotate_left; (focus ((refine o_call (within _ _ _ (by decide) (by decide) (by decide) (by decide)) (by first | exact True.intro | (show _ < _; decide)) rfl rfl (fun _ _ => ?_)) <;> exact lL)); ((refine lQ 4 ?_; ((refine lQ 5 ?_; ((refine lC (v := ?_) 6 ?_ ?_; rotate_left; (focus ((refine o_call (within _ _ _ (by decide) (by decide) (by decide) (by decide)) (by first | exact True.intro | (show _ < _; decide)) rfl rfl (fun _ _ => ?_)) <;> exact lL)); ((refine lQ 7 ?_; ((refine lQ 8 ?_; ((refine lC (v := ?_) 9 ?_ ?_; rotate_left; (focus ((refine o_call (within _ _ _ (by decide) (by decide) (by decide) (by decide)) (by first | exact True.intro | (show _ < _; decide)) rfl rfl (fun _ _ => ?_)) <;> exact lL)); ((refine lQ 10 ?_; ((refine lQ 11 ?_; ((refine lC (v := ?_) 12 ?_ ?_; rotate_left; (focus ((refine o_call (within _ _ _ (by decide) (by decide) (by decide) (by decide)) (by first | exact True.intro | (show _ < _; decide)) rfl rfl (fun _ _ => ?_)) <;> exact lL)); ((refine lC (v := ?_) 13 ?_ ?_; rotate_left; (focus (((refine o_shl (by decide) rfl rfl (by assumption) ?_; rw [hbt])) <;> exact lL)); ((refine lC (v := ?_) 14 ?_ ?_; rotate_left; (focus ((refine o_build (cells := R.ec (wn tm 0 120, wn ky 0 3, wn vl (-50) 50, bt (wn mk 0 7))) (by decide) rfl ?_) <;> exact lL)); ((refine lC (v := ?_) 15 ?_ ?_; rotate_left; (focus ((refine o_build (cells := inc (false, wn tm 0 120, wn ky 0 3, wn vl (-50) 50, bt (wn mk 0 7))) (by decide) rfl ?_) <;> exact lL)); ((refine oN 16 ?_ <;> ((refine o_buildSlice (by decide) rfl rfl rfl (fun _ => ?_))) <;> (refine os_nil ?_) <;> ((refine oN 17 ?_ <;> (refine o_appendT (cells := inc) (xs := []) (ys := [(false, wn tm 0 120, wn ky 0 3, wn vl (-50) 50, bt (wn mk 0 7))]) inc_len inc_one (by decide) rfl rfl rfl rfl rfl (by simp) (by simp [maxLen]) (fun a' cap' hc' => ?_)) <;> (refine os_nil ?_) <;> ((refine lQ 18 ?_; ((refine dK ?_; intro _))))))))))))))))))))))))))))))))))))))))) | (refine rG 4 [0, 3, 4] ?_; ((try (refine wK ?_; intro _)))) | refine wC ?_ | (refine ex_split rfl ?_ ?_ <;> intro hc))
    all_goals
      rw [e1]
      refine rn_succ ?_
      refine Ex.rd_some (a := a') (l := ([] ++ [((false, wn tm 0 120, wn ky 0 3, wn vl (-50) 50, bt (wn mk 0 7)) : In)]).flatMap inc) (by simp [inc]) (fun ad2 ha2 => ?_)
      subst ha2
      repeat' (first | (refine rG 3 [0, 3, 4, 13] ?_; ((try refine wO ?_) <;> (repeat' (refine g_split rfl (by decide) rfl (by decide) ?_ ?_ <;> intro hc <;> (try refine wO ?_))) <;> (try (refine wK ?_; intro _)))) | (refine rG 9 [2] ?_; ((try (refine wK ?_; intro _)))) | refine wC ?_ | (refine ex_split rfl ?_ ?_ <;> intro hc))
      refine fin (.inr rfl) (ad2, cap', (false, wn tm 0 120, wn ky 0 3, wn vl (-50) 50, bt (wn mk 0 7))) (resl1 rfl (rv_tmp rfl)) hc' ?_
      refine Ent.trans (show Ent _ (ow 39 5 (some ad2) 1 cap' (inc (false, wn tm 0 120, wn ky 0 3, wn vl (-50) 50, bt (wn mk 0 7))) * _) from Ent.refl _) ?_
      exact ent_take
end Go.Proofs.YtcelailgedndnaaGreatS
namespace Go.Proofs.YtcelailgedndnaaGreatS
open Go.RowKit
set_option linter.unusedVariables false
set_option linter.unusedSimpArgs false
set_option linter.unusedVariables false
set_option linter.unusedSimpArgs false
attribute [local irreducible] Ops Ex Spec T V QO OA Rn OS
set_option maxHeartbeats 40000000 in
set_option maxRecDepth 100000 in
theorem actsK (H : HP) (a : Option Addr) (c : Nat) (l : List R.Kn) [ha : RdC H a (l.flatMap R.kac)] (hrd : ∀ x ∈ l, RdC H x.2.2.2.2.1.1.1 (ints .i64 x.2.2.2.2.1.1.2.1) ∧ RdC H x.2.2.2.2.1.2.1.1 (ints .i64 x.2.2.2.2.1.2.1.2.1)) :
    Spec Tryz.prog 21 [.slice a l.length c] H (X := Option Addr × Nat × List At) (fun y => .slice y.1 y.2.2.length y.2.1) (fun y => y.2.2.length ≤ 40 ∧ y.2.2.length ≤ y.2.1 ∧ ∀ r ∈ y.2.2, actok r)
      (fun y => ow 41 15 y.1 y.2.2.length y.2.1 (y.2.2.flatMap ae) * (orm y.2.2 * H)) := by
  refine spec_of Tryz.func21 rfl Tryz.ntmps21 rfl ?_
  repeat' (first | (refine rG 0 [0] ?_; ((try (refine wK ?_; intro _)))) | (refine rG 1 [0, 3] ?_; ((try (refine wK ?_; intro _)))) | (refine rG 2 [0, 3, 4] ?_; ((try (refine wK ?_; intro _)))) | refine wC ?_ | (refine ex_split rfl ?_ ?_ <;> intro hc))
  refine Ex.ent ?_ (Ent.ow_none 41 15 _)
  refine ex_loopE (fun mm e H' => ∃ g, ∃ i : Nat, ∃ A : List At, ∃ ra, ∃ rc : Nat, e = put (put (put g 0 (.slice a l.length c)) 3 (.slice ra A.length rc)) 4 (.int .i64 (i : Int)) ∧
    H' = ow 41 15 ra A.length rc (A.flatMap ae) * (orm A * H) ∧ A.length = i ∧ (∀ r ∈ A, actok r) ∧ i ≤ 40 ∧ i ≤ l.length ∧ A.length ≤ rc ∧ mm = 40 - i) (m := 40) ⟨_, 0, [], none, 0, rfl, rfl, rfl, by simp, by omega, by omega, by simp, by omega⟩ ?_ ?_
  · show Ent _ (ow 41 15 none 0 0 [] * (1 * H))
    exact ent_take
  · rintro mm e H' ⟨g, i, A, ra, rc, rfl, rfl, hAl, hAo, hi40, hil, hrc, rfl⟩
    have ei : IntKind.i64.wrap ((i : Int) + 1) = ((i + 1 : Nat) : Int) := by rw [IntKind.wrap_i64]; omega
    by_cases hlt : i < l.length ∧ i < 40
    · obtain ⟨hlt, hlt4⟩ := hlt
      have hd : decide ((i : Int) < (l.length : Int)) = true := decide_eq_true (by omega)
      have hd4 : decide ((i : Int) < 40) = true := decide_eq_true (by omega)
      have h0 : 0 ≤ (i : Int) := by omega
      have h1 : (i : Int) < (l.length : Int) := by omega
      refine Ex.rd_some (a := a) (l := l.flatMap R.kac) (by rw [flat_len R.kac_len]; omega) (fun ad ha2 => ?_)
      subst ha2
      have hv : sub (l.flatMap R.kac) ((i : Int).toNat * 15) 15 = some (R.kac l[i]) := by rw [Int.toNat_natCast]; exact sub_flat R.kac_len l i hlt
      obtain ⟨hr1, hr2⟩ := hrd _ (List.getElem_mem hlt)
      generalize l[i] = x at *
      obtain ⟨kd, tn, fr, nn, ⟨⟨ka, kl, kca⟩, ⟨kb, kns, kcb⟩, kzz, kss, kaa, kkk, kff⟩, tm, ky, vl, mk⟩ := x
      have hr1 : RdC H ka (ints .i64 kl) := hr1
      have hr2 : RdC H kb (ints .i64 kns) := hr2
      have bT := wn_bd tn 0 3 (by decide)
      have bD := wn_bd kd 0 9 (by decide)
      repeat' (first | (refine rG 3 [0, 3, 4, 14] ?_; ((try refine wO ?_) <;> (repeat' (refine g_split rfl (by decide) rfl (by decide) ?_ ?_ <;> intro hc <;> (try refine wO ?_))) <;> (try (refine wK ?_; intro _)))) | (refine ex_regk (id := 5) (ts := [0, 3, 4, 5]) ?_; ((try (first | refine o_mv (v := .slice _ _ _) (by decide) rfl ?_ | refine o_mv (by decide) rfl ?_)) <;> (try (first | refine o_mv (v := .int _ _) (by decide) rfl ?_ | refine o_mv (by decide) rfl ?_)) <;> (try (refine o_index (by decide) rfl rfl (by first | decide | assumption | omega) (by first | decide | assumption | omega) ?_)) <;> (try (refine o_load_ra (vs := R.kac (kd, tn, fr, nn, ((ka, kl, kca), (kb, kns, kcb), kzz, kss, kaa, kkk, kff), tm, ky, vl, mk)) (by decide) rfl hv ?_)) <;> (try ((refine o_alloc_a (by decide) (fun b5 => ?_)))) <;> (try (first | refine o_store_a rfl rfl rfl rfl rfl ?_ | refine o_store_oa rfl rfl rfl (Nat.succ_pos _) rfl (by assumption) ?_)) <;> (try (refine ops_nilk ?_; intro _)) <;> (try ((first | refine keep_cons (v := .slice _ _ _) rfl ?_ | refine keep_cons (v := _) rfl ?_) <;> (first | refine keep_cons (v := .slice _ _ _) rfl ?_ | refine keep_cons (v := _) rfl ?_) <;> (first | refine keep_cons (v := .int _ _) rfl ?_ | refine keep_cons (v := _) rfl ?_) <;> (first | refine keep_cons (v := .pointer _) rfl ?_ | refine keep_cons (v := _) rfl ?_))) <;> (try refine keep_nil ?_))) | refine wC ?_ | (refine ex_split rfl ?_ ?_ <;> intro hc))
      refine Ex.ent ?_ (ent_clL (b := b5) (l' := R.kac (kd, tn, fr, nn, ((ka, kl, kca), (kb, kns, kcb), kzz, kss, kaa, kkk, kff), tm, ky, vl, mk)) rfl)
      repeat' (first | (refine rA 6 [0, 3, 4, 5, 6] 12 ?_; (refine os_all ?_); ((refine lQ 0 ?_; ((refine lQ 1 ?_; ((refine lC (v := ?_) 2 ?_ ?_; rotate_left; (focus ((refine o_call (within _ _ _ (by decide) (by decide) (by decide) (by decide)) (by first | exact True.intro | (show _ < _; decide)) rfl rfl (fun _ _ => ?_)) <;> exact lL)); ((refine lQ 3 ?_; ((refine lQ 4 ?_; ((refine lC (v := ?_) 5 ?_ ?_; rotate_left; (focus ((refine o_call (within _ _ _ (by decide) (by decide) (by decide) (by decide)) (by first | exact True.intro | (show _ < _; decide)) rfl rfl (fun _ _ => ?_)) <;> exact lL)); ((refine lQ 6 ?_; ((refine lQ 7 ?_; ((refine lC (v := ?_) 8 ?_ ?_; rotate_left; (focus ((refine o_call (within _ _ _ (by decide) (by decide) (by decide) (by decide)) (by first | exact True.intro | (show _ < _; decide)) rfl rfl (fun _ _ => ?_)) <;> exact lL)); ((refine lC (v := ?_) 9 ?_ ?_; rotate_left; (focus ((refine o_build (cells := acc none 0 (0, wn tn 0 3, wn fr (-1) 6, wn nn (-1) 9, p0, z0)) (by decide) rfl ?_) <;> exact lL)); ((refine oN 10 ?_ <;> ((refine o_alloc_a (by decide) (fun b6 => ?_))) <;> (refine os_nil ?_) <;> ((refine oN 11 ?_ <;> (refine wO ?_) <;> (refine os_nil ?_) <;> ((refine dK ?_; intro _))))))))))))))))))))))))))) | refine wC ?_ | (refine ex_split rfl ?_ ?_ <;> intro hc))
      all_goals
        refine Ex.ent ?_ (ent_clL (b := b6) (l' := acc none 0 (0, wn tn 0 3, wn fr (-1) 6, wn nn (-1) 9, p0, z0)) rfl)
        repeat' (first | (refine rG 7 [0, 3, 4, 5, 6, 33] ?_; ((try refine wO ?_) <;> (try (refine o_call (within _ _ _ (by decide) (by decide) (by decide) (by decide)) (by first | exact True.intro | (show _ < _; decide)) rfl rfl (fun _ _ => ?_))) <;> (try (refine wK ?_; intro _)))) | refine ex_seq ?_ | refine ex_ret ?_ | refine ex_skip ?_ | refine ex_exit ?_ | refine ex_cond_t rfl ?_ | refine ex_cond_f rfl ?_ | refine ex_cond_t (congrArg Value.bool (by assumption)) ?_ | refine ex_cond_f (congrArg Value.bool (by assumption)) ?_ | (refine ex_split rfl ?_ ?_ <;> intro hc))
        generalize hD : wn kd 0 9 = D at *
        generalize wn tn 0 3 = T at *
        generalize wn fr (-1) 6 = F at *
        generalize wn nn (-1) 9 = N at *
        refine R.ex_cut (fun e H' => ∃ G, ∃ r : At, e = put (put (put (put G 0 (.slice (some ad) l.length c)) 3 (.slice ra A.length rc)) 4 (.int .i64 (i : Int))) 6 (.pointer (some ⟨b6, 0, none⟩)) ∧ Ent H' (cl true b6 (ae r) 41 (0, 0) * (orr r * (ow 41 15 ra A.length rc (A.flatMap ae) * (orm A * H)))) ∧ actok r) ?_ ?_
        · have hcase : D = 0 ∨ (D = 1 ∨ D = 2 ∨ D = 3 ∨ D = 4 ∨ D = 5) ∨ (D = 6 ∨ D = 7) ∨ D = 8 ∨ D = 9 := by omega
          rcases hcase with h | h | h | h | h
          · subst h
            repeat' (first | (refine rG 9 [0, 3, 4, 5, 6, 33, 35] ?_; ((try (refine wK ?_; intro _)))) | (refine ex_regk (id := 10) (ts := [0, 3, 4, 6]) ?_; ((try (refine o_fieldAddr' (by decide) rfl ?_)) <;> (try (refine o_load_a (vs := R.pc ((ka, kl, kca), (kb, kns, kcb), kzz, kss, kaa, kkk, kff)) (by decide) rfl rfl ?_)) <;> (try ((refine o_callH (R.pipeP _ ka kb kl kns kca kcb kzz kss kaa kkk kff) (by first | exact True.intro | (show _ < _; decide)) rfl rfl (fun y hy => ?_); obtain ⟨ya, yc, L⟩ := y))) <;> (try (refine o_fieldAddr' (by decide) rfl ?_)) <;> (try (first | refine o_store_s (v := .int _ _) rfl rfl rfl rfl ?_ | refine o_store_s rfl rfl rfl rfl ?_ | refine o_store_os (v := .int _ _) rfl rfl rfl (by assumption) ?_)) <;> (try (refine o_fieldAddr' (by decide) rfl ?_)) <;> (try (first | refine o_store_a rfl rfl rfl rfl rfl ?_ | refine o_store_oa rfl rfl rfl (Nat.succ_pos _) rfl (by assumption) ?_)) <;> (try (refine ops_nilk ?_; intro _)) <;> (try ((first | refine keep_cons (v := .slice _ _ _) rfl ?_ | refine keep_cons (v := _) rfl ?_) <;> (first | refine keep_cons (v := .slice _ _ _) rfl ?_ | refine keep_cons (v := _) rfl ?_) <;> (first | refine keep_cons (v := .int _ _) rfl ?_ | refine keep_cons (v := _) rfl ?_) <;> (first | refine keep_cons (v := .pointer _) rfl ?_ | refine keep_cons (v := _) rfl ?_))) <;> (try refine keep_nil ?_))) | refine wC ?_ | (refine ex_split rfl ?_ ?_ <;> intro hc))
            obtain ⟨hL4, hLr⟩ := hy
            refine ⟨rfl, _, (ya, yc, (1, T, F, N, (L, R.psize kzz kss, wn kss 1 12, wn kaa 1 4, wn kkk (-1) 1, wn kff (-1) 1), z0)), rfl, ?_, actok_mk (by decide) (by decide) bT (Nat.le_trans hL4 (by decide))⟩
            refine Ent.trans (ent_clL (b := b6) (l' := ae (ya, yc, (1, T, F, N, (L, R.psize kzz kss, wn kss 1 12, wn kaa 1 4, wn kkk (-1) 1, wn kff (-1) 1), z0))) rfl) ?_
            refine Ent.trans (ent_fz (a := ya) (m := L.length) (cap := yc) (l := L.flatMap oc) (el := 159) (sz := 2)) ?_
            show Ent _ (cl true b6 (ae (ya, yc, (1, T, F, N, (L, R.psize kzz kss, wn kss 1 12, wn kaa 1 4, wn kkk (-1) 1, wn kff (-1) 1), z0))) 41 (0, 0) * (rs ya (L.flatMap oc) * (ow 41 15 ra A.length rc (A.flatMap ae) * (orm A * H))))
            exact ent_take
          · rcases h with rfl | rfl | rfl | rfl | rfl
            all_goals
              repeat' (first | (refine rG 9 [0, 3, 4, 5, 6, 33, 35] ?_; ((try (refine wK ?_; intro _)))) | (refine rG 11 [0, 3, 4, 5, 6, 33, 42] ?_; ((try (refine wK ?_; intro _)))) | (refine rG 12 [0, 3, 4, 5, 6, 33, 42] ?_; ((try (refine wK ?_; intro _)))) | (refine rG 13 [0, 3, 4, 5, 6, 33, 42] ?_; ((try (refine wK ?_; intro _)))) | (refine rG 14 [0, 3, 4, 5, 6, 33, 42] ?_; ((try (refine wK ?_; intro _)))) | (refine rG 15 [0, 3, 4, 5, 6, 33, 42] ?_; ((try (refine wK ?_; intro _)))) | (refine rA 16 [0, 3, 4, 6] 10 ?_; (refine os_but 6 rfl ?_); ((refine lQ 0 ?_; ((refine lC (v := ?_) 1 ?_ ?_; rotate_left; (focus ((refine o_load_a (vs := R.nc (tm, ky, vl, mk)) (by decide) rfl rfl ?_) <;> exact lL)); ((refine lQ 6 ?_; ((refine oN 2 ?_ <;> ((refine o_buildSlice (by decide) rfl rfl rfl (fun _ => ?_))) <;> (refine os_nil ?_) <;> ((refine oN 3 ?_ <;> ((refine o_callH (inputs1 _ _ 1 (tm, ky, vl, mk)) (by first | exact True.intro | (show _ < _; decide)) rfl rfl (fun y hy => ?_); obtain ⟨ia, icp, iv⟩ := y)) <;> (refine os_nil ?_) <;> ((refine lQ 4 ?_; ((refine os_two 5 7 (by kernel_rfl) rfl rfl ?_ ?_ <;> first | (refine os_sel (d := some 53) rfl ?_ <;> (refine o_load_ra (vs := inc iv) (by decide) rfl (show sub (inc iv) ((0 : Int).toNat * 5) 5 = some (inc iv) from rfl) ?_) <;> (refine os_nil ?_) <;> ((refine oN 7 ?_ <;> (refine wO ?_) <;> (refine os_nil ?_) <;> ((refine lQ 8 ?_; ((refine oN 9 ?_ <;> (refine wO ?_) <;> (refine os_nil ?_) <;> ((refine dK ?_; intro _))))))))) | (refine os_sel (d := none) rfl ?_ <;> (refine wO ?_) <;> (refine os_nil ?_) <;> ((refine oN 5 ?_ <;> (refine o_load_ra (vs := inc iv) (by decide) rfl (show sub (inc iv) ((0 : Int).toNat * 5) 5 = some (inc iv) from rfl) ?_) <;> (refine os_nil ?_) <;> ((refine lQ 8 ?_; ((refine oN 9 ?_ <;> (refine wO ?_) <;> (refine os_nil ?_) <;> ((refine dK ?_; intro _)))))))))))))))))))))))) | refine wC ?_ | (refine ex_split rfl ?_ ?_ <;> intro hc))
              all_goals
                refine ⟨rfl, _, (none, 0, (2, T, F, N, p0, iv)), rfl, ?_, actok_mk (by decide) (by decide) bT (Nat.zero_le _)⟩
                refine Ent.trans (ent_clL (b := b6) (l' := ae (none, 0, (2, T, F, N, p0, iv))) rfl) ?_
                refine Ent.trans (rs_empty none _) ?_
                show Ent _ (cl true b6 (ae (none, 0, (2, T, F, N, p0, iv))) 41 (0, 0) * (rs none [] * (ow 41 15 ra A.length rc (A.flatMap ae) * (orm A * H))))
                exact ent_take
          · rcases h with rfl | rfl
            all_goals
              repeat' (first | (refine rG 9 [0, 3, 4, 5, 6, 33, 35] ?_; ((try (refine wK ?_; intro _)))) | (refine rG 11 [0, 3, 4, 5, 6, 33, 42] ?_; ((try (refine wK ?_; intro _)))) | (refine rG 12 [0, 3, 4, 5, 6, 33, 42] ?_; ((try (refine wK ?_; intro _)))) | (refine rG 13 [0, 3, 4, 5, 6, 33, 42] ?_; ((try (refine wK ?_; intro _)))) | (refine rG 14 [0, 3, 4, 5, 6, 33, 42] ?_; ((try (refine wK ?_; intro _)))) | (refine rG 15 [0, 3, 4, 5, 6, 33, 42] ?_; ((try (refine wK ?_; intro _)))) | (refine rG 17 [0, 3, 4, 6, 33, 56] ?_; ((try (refine wK ?_; intro _)))) | (refine rG 18 [0, 3, 4, 6, 33, 56] ?_; ((try (refine wK ?_; intro _)))) | (refine rG 19 [0, 3, 4, 6] ?_; ((try (refine wK ?_; intro _)))) | refine wC ?_ | (refine ex_split rfl ?_ ?_ <;> intro hc))
              refine ⟨rfl, _, (none, 0, (3, T, F, N, p0, z0)), rfl, ?_, actok_mk (by decide) (by decide) bT (Nat.zero_le _)⟩
              refine Ent.trans (ent_clL (b := b6) (l' := ae (none, 0, (3, T, F, N, p0, z0))) rfl) ?_
              refine Ent.trans (rs_empty none _) ?_
              show Ent _ (cl true b6 (ae (none, 0, (3, T, F, N, p0, z0))) 41 (0, 0) * (rs none [] * (ow 41 15 ra A.length rc (A.flatMap ae) * (orm A * H))))
              exact ent_take
          · subst h
            repeat' (first | (refine rG 9 [0, 3, 4, 5, 6, 33, 35] ?_; ((try (refine wK ?_; intro _)))) | (refine rG 11 [0, 3, 4, 5, 6, 33, 42] ?_; ((try (refine wK ?_; intro _)))) | (refine rG 12 [0, 3, 4, 5, 6, 33, 42] ?_; ((try (refine wK ?_; intro _)))) | (refine rG 13 [0, 3, 4, 5, 6, 33, 42] ?_; ((try (refine wK ?_; intro _)))) | (refine rG 14 [0, 3, 4, 5, 6, 33, 42] ?_; ((try (refine wK ?_; intro _)))) | (refine rG 15 [0, 3, 4, 5, 6, 33, 42] ?_; ((try (refine wK ?_; intro _)))) | (refine rG 17 [0, 3, 4, 6, 33, 56] ?_; ((try (refine wK ?_; intro _)))) | (refine rG 18 [0, 3, 4, 6, 33, 56] ?_; ((try (refine wK ?_; intro _)))) | (refine rG 20 [0, 3, 4, 6, 60] ?_; ((try (refine wK ?_; intro _)))) | (refine rG 21 [0, 3, 4, 6] ?_; ((try (refine wK ?_; intro _)))) | refine wC ?_ | (refine ex_split rfl ?_ ?_ <;> intro hc))
            refine ⟨rfl, _, (none, 0, (4, T, F, N, p0, z0)), rfl, ?_, actok_mk (by decide) (by decide) bT (Nat.zero_le _)⟩
            refine Ent.trans (ent_clL (b := b6) (l' := ae (none, 0, (4, T, F, N, p0, z0))) rfl) ?_
            refine Ent.trans (rs_empty none _) ?_
            show Ent _ (cl true b6 (ae (none, 0, (4, T, F, N, p0, z0))) 41 (0, 0) * (rs none [] * (ow 41 15 ra A.length rc (A.flatMap ae) * (orm A * H))))
            exact ent_take
          · subst h
            repeat' (first | (refine rG 9 [0, 3, 4, 5, 6, 33, 35] ?_; ((try (refine wK ?_; intro _)))) | (refine rG 11 [0, 3, 4, 5, 6, 33, 42] ?_; ((try (refine wK ?_; intro _)))) | (refine rG 12 [0, 3, 4, 5, 6, 33, 42] ?_; ((try (refine wK ?_; intro _)))) | (refine rG 13 [0, 3, 4, 5, 6, 33, 42] ?_; ((try (refine wK ?_; intro _)))) | (refine rG 14 [0, 3, 4, 5, 6, 33, 42] ?_; ((try (refine wK ?_; intro _)))) | (refine rG 15 [0, 3, 4, 5, 6, 33, 42] ?_; ((try (refine wK ?_; intro _)))) | (refine rG 17 [0, 3, 4, 6, 33, 56] ?_; ((try (refine wK ?_; intro _)))) | (refine rG 18 [0, 3, 4, 6, 33, 56] ?_; ((try (refine wK ?_; intro _)))) | (refine rG 20 [0, 3, 4, 6, 60] ?_; ((try (refine wK ?_; intro _)))) | (refine rG 8 [0, 3, 4, 6] ?_; ((try (refine wK ?_; intro _)))) | refine wC ?_ | (refine ex_split rfl ?_ ?_ <;> intro hc))
            refine ⟨rfl, _, (none, 0, (5, T, F, N, p0, z0)), rfl, ?_, actok_mk (by decide) (by decide) bT (Nat.zero_le _)⟩
            refine Ent.trans (ent_clL (b := b6) (l' := ae (none, 0, (5, T, F, N, p0, z0))) rfl) ?_
            refine Ent.trans (rs_empty none _) ?_
            show Ent _ (cl true b6 (ae (none, 0, (5, T, F, N, p0, z0))) 41 (0, 0) * (rs none [] * (ow 41 15 ra A.length rc (A.flatMap ae) * (orm A * H))))
            exact ent_take
        · rintro e H' ⟨G, r, rfl, hE, hw⟩
          refine Ex.ent ?_ hE
          repeat' (first | (refine ex_regk (id := 22) (ts := [0, 3, 4]) ?_; ((try (first | refine o_mv (v := .slice _ _ _) (by decide) rfl ?_ | refine o_mv (by decide) rfl ?_)) <;> (try (refine o_load_a (vs := ae r) (by decide) rfl rfl ?_)) <;> (try ((refine o_buildSlice (by decide) rfl rfl rfl (fun _ => ?_)))) <;> (try (refine o_appendT (cells := ae) (xs := A) (ys := [r]) ae_len ae_one (by decide) rfl rfl rfl rfl rfl (by simp only [List.length_cons, List.length_nil]; omega) (by simp only [maxLen, List.length_cons, List.length_nil]; omega) (fun a' cap' hc' => ?_))) <;> (try (first | refine o_as (v := .slice _ _ _) (by decide) rfl ?_ | refine o_as (by decide) rfl ?_)) <;> (try (refine ops_nilk ?_; intro _)) <;> (try ((first | refine keep_cons (v := .slice _ _ _) rfl ?_ | refine keep_cons (v := _) rfl ?_) <;> (first | refine keep_cons (v := .slice _ _ _) rfl ?_ | refine keep_cons (v := _) rfl ?_) <;> (first | refine keep_cons (v := .int _ _) rfl ?_ | refine keep_cons (v := _) rfl ?_))) <;> (try refine keep_nil ?_))) | (refine rG 4 [0, 3, 4] ?_; ((try (refine wK ?_; intro _)))) | refine wC ?_ | (refine ex_split rfl ?_ ?_ <;> intro hc))
          rw [ei]
          refine ⟨40 - (i + 1), by omega, _, ?_, _, i + 1, A ++ [r], a', cap', rfl, rfl, by rw [List.length_append, hAl]; rfl, ?_, by omega, by omega, hc', rfl⟩
          · rw [orm_snoc]; exact ent_take
          · intro q hq
            rcases List.mem_append.1 hq with hq | hq
            · exact hAo q hq
            · rw [List.mem_singleton.1 hq]; exact hw
    · have hdx : decide ((i : Int) < (l.length : Int)) = false ∨ (decide ((i : Int) < (l.length : Int)) = true ∧ decide ((i : Int) < 40) = false) := by
        by_cases h : i < l.length
        · exact .inr ⟨decide_eq_true (by omega), decide_eq_false (by omega)⟩
        · exact .inl (decide_eq_false (by omega))
      rcases hdx with hd | ⟨hd, hd4⟩
      all_goals
        repeat' (first | (refine rG 3 [0, 3, 4, 14] ?_; ((try refine wO ?_) <;> (repeat' (refine g_split rfl (by decide) rfl (by decide) ?_ ?_ <;> intro hc <;> (try refine wO ?_))) <;> (try (refine wK ?_; intro _)))) | (refine rG 23 [2] ?_; ((try (refine wK ?_; intro _)))) | refine wC ?_ | (refine ex_split rfl ?_ ?_ <;> intro hc))
        exact fin (.inr rfl) (ra, rc, A) (resl1 rfl (rv_tmp rfl)) ⟨by show A.length ≤ 40; omega, hrc, hAo⟩ (Ent.refl _)
end Go.Proofs.YtcelailgedndnaaGreatS
namespace Go.Proofs.YtcelailgedndnaaGreatS
open Go.RowKit
set_option linter.unusedVariables false
set_option linter.unusedSimpArgs false
set_option maxRecDepth 100000
/-! The five acts of awake. -/
def dk : Sk := (3#64, 3#64, 2, 2, 4)
def dp : Pp := ([], 10, 10, 2, 0, -1)
def w0 : Cs := newCs 4 8 50 [dk]
def wa1 : Ac := (1, 0, 0, 0, dp, z0)
def wa2 : Ac := (2, 0, 0, 0, p0, (false, 1, 0, 5, 0))
def wa3 : Ac := (2, 0, 0, 0, p0, (true, 10, 0, 0, 0))
def wa4 : Ac := (3, 0, 0, 0, p0, z0)
def wa5 : Ac := (4, 0, 0, 3, p0, z0)
def wev : In := (false, 1, 0, 5, 1#64)
def wmk : In := (true, 10, 0, 0, 0)
def wc3 : Cd := ⟨48, 2, 0, [wev, wmk], newRu dp, 0, [], []⟩
def w3 : Cs := { w0 with cells := [some wc3, none, none, none, none, none, none, none] }
def wP : Pm := [((0, 0), (1, 5, 1#64))]
theorem w_right : rightS 4 8 50 [dk] = true := by decide +kernel
theorem w_three : (doL [wa1, wa2, wa3] w0).1 = w3 ∧ (doL [wa1, wa2, wa3] w0).2 = [(0, [], []), (0, [], []), (0, [], [])] := by
  constructor
  · rfl
  · rfl
theorem w_pk : pkeys wP = [(0, 0)] := by unfold pkeys psort wP; simp
theorem w_take : rnTake (newRu dp) [wev, wmk] = (⟨10, 0, 1, dp, []⟩, [(0, 0, 5, 1, 1#64)]) := by
  have h1 : rnEvent (newRu dp) wev.2 = ⟨0, 0, 1, dp, wP⟩ := by rfl
  have h2 : rnTake (newRu dp) [wev, wmk] = (⟨10, 0, 1, dp, clP 10 10 wP⟩, clR 10 10 wP) := by
    show ((rnIn (rnEvent (newRu dp) wev.2) wmk).1, ([] ++ []) ++ (rnIn (rnEvent (newRu dp) wev.2) wmk).2) = _
    rw [h1]; rfl
  rw [h2]
  unfold clP clR
  rw [w_pk]; rfl
theorem w_tick : cell (tickS w3) 0 = some (serve 2 wc3).1 := by rfl
theorem w_serve : (serve 2 wc3).1.rows = [(0, 0, 5, 1, 1#64)] := by
  show [] ++ (rnTake (newRu dp) [wev, wmk]).2 = _
  rw [w_take]; rfl
theorem w_all : (doL [wa1, wa2, wa3, wa4, wa5] w0).2 = [(0, [], []), (0, [], []), (0, [], []), (0, [], []), (0, [(0, 0, 5, 1, 1#64)], [])] := by
  have e : [wa1, wa2, wa3, wa4, wa5] = ([wa1, wa2, wa3] ++ [wa4]) ++ [wa5] := rfl
  rw [e, doL_snoc, doL_snoc, w_three.1, w_three.2]
  have h4 : doS wa4 w3 = (tickS w3, 0, [], []) := rfl
  rw [h4]
  have h5 : (doS wa5 (tickS w3)).2 = (0, [(0, 0, 5, 1, 1#64)], []) := by
    have hc : cellI (tickS w3) 0 = some (serve 2 wc3).1 := by unfold cellI; rw [if_pos (by decide)]; exact w_tick
    have hr : rowsAt 0 3 (serve 2 wc3).1 = ([(0, 0, 5, 1, 1#64)], 0) := by
      rw [rowsAt_ok (by rw [w_serve]; decide), w_serve]; rfl
    unfold doS wa5
    rw [if_neg (by decide), if_neg (by decide), if_neg (by decide), if_neg (by decide)]
    rw [show cellI (tickS w3) ((4, 0, 0, 3, p0, z0) : Ac).2.1 = some (serve 2 wc3).1 from hc]
    show ((rowsAt 0 3 (serve 2 wc3).1).2, (rowsAt 0 3 (serve 2 wc3).1).1, []) = _
    rw [hr]
  rw [h5]; rfl
end Go.Proofs.YtcelailgedndnaaGreatS
namespace Go.Proofs.YtcelailgedndnaaGreatS
open Go.RowKit
set_option linter.unusedVariables false
set_option linter.unusedSimpArgs false
def pot0 (k : Sk) : Int × Pt := (k.2.2.2.1, (0, 0, 0))
abbrev L0 : Cl := [none, none, none, none, none, none, none, none]
theorem bs0_tc : ∀ i (h : i < Bd.bs0.length), (Bd.bs0[i]).2.2.length ≤ (Bd.bs0[i]).2.1 := by decide
set_option linter.unusedVariables false
set_option linter.unusedSimpArgs false
attribute [local irreducible] Ops Ex Spec T V QO OA Rn OS
set_option maxHeartbeats 16000000 in
theorem coNew (H : HP) (a : Option Addr) (l : List Sk) (cap : Nat) (bu ro qu : Int) [hr : RdC H a (l.flatMap sc)] (hl : l.length ≤ 4) (h : rightS bu ro qu l = true) :
    Spec Tryz.prog 10 [.agg (List.toArray [.int .i64 bu, .int .i64 ro, .int .i64 qu, .slice a l.length cap])] H (X := Nat) (fun y => .pointer (some ⟨y, 0, none⟩)) (fun _ => True) (fun y => CO y (newCs bu ro qu l) * H) := by
  have hright := fun (H' : HP) (hh : RdC H' a (l.flatMap sc)) => coRight H' a l cap bu ro qu (hr := hh) (by omega) h
  refine spec_of Tryz.func10 rfl Tryz.ntmps10 rfl ?_
  repeat' (first | (refine rG 0 [1] ?_; ((try ((refine o_box (by decide) (v := .agg (List.toArray _)) rfl rfl (fun b1 => ?_)))) <;> (try (refine wK ?_; intro _)))) | (refine rG 1 [1, 8] ?_; ((try refine wO ?_) <;> (try (refine o_callH (hright _ inferInstance) (by first | exact True.intro | (show _ < _; decide)) rfl rfl (fun _ _ => ?_))) <;> (try (refine wK ?_; intro _)))) | (refine rG 3 [1] ?_; ((try refine wO ?_) <;> (try ((refine o_callH (cloneK _ a l cap (by omega)) (by first | exact True.intro | (show _ < _; decide)) rfl rfl (fun y hsc => ?_); obtain ⟨sa, sc_⟩ := y))) <;> (try (refine wK ?_; intro _)))) | refine wC ?_ | (refine ex_split rfl ?_ ?_ <;> intro hc))
  refine Ex.ent ?_ (ent_clL (b := b1) (l' := [.int .i64 bu, .int .i64 ro, .int .i64 qu, .slice sa l.length sc_]) rfl)
  repeat' (first | (refine rA 4 [1, 3] 5 ?_; (refine os_all ?_); ((refine lC (v := ?_) 0 ?_ ?_; rotate_left; (focus ((refine o_load_a (vs := [.int .i64 bu, .int .i64 ro, .int .i64 qu, .slice sa l.length sc_]) (by decide) rfl rfl ?_) <;> exact lL)); ((refine oN 1 ?_ <;> ((refine o_callH (Bd.new_ _) (by first | exact True.intro | (show _ < _; decide)) rfl rfl (fun bb _ => ?_))) <;> (refine os_nil ?_) <;> ((refine lQ 2 ?_; ((refine oN 3 ?_ <;> ((refine o_box (by decide) (v := .agg (List.toArray _)) rfl rfl (fun b16 => ?_))) <;> (refine os_nil ?_) <;> ((refine lQ 4 ?_; ((refine dK ?_; intro _))))))))))))) | refine wC ?_ | (refine ex_split rfl ?_ ?_ <;> intro hc))
  all_goals
    refine Ex.ent ?_ (ent_clL (b := b16) (l' := coc bu ro qu 0 sa l.length sc_ L0 none 0 0 bb) rfl)
    repeat' (first | (refine rG 5 [3, 18, 19, 20] ?_; ((try (refine wK ?_; intro _)))) | refine wC ?_ | (refine ex_split rfl ?_ ?_ <;> intro hc))
    refine Ex.ent ?_ (ent_fz (a := sa) (m := l.length) (cap := sc_) (l := l.flatMap sc) (el := 74) (sz := 5))
    refine Ex.ent ?_ (Ent.ow_none 108 4 _)
    refine ex_loopE (fun mm e H' => ∃ g, ∃ i : Nat, ∃ Q : List (Int × Pt), ∃ pa, ∃ pc_ : Nat, e = put (put (put (put g 3 (.pointer (some ⟨b16, 0, none⟩))) 18 (.slice sa l.length sc_)) 19 (.int .i64 (l.length : Int))) 20 (.int .i64 (i : Int)) ∧
      H' = cl true b16 (coc bu ro qu 0 sa l.length sc_ L0 pa Q.length pc_ bb) 102 (0, 0) * (ow 108 4 pa Q.length pc_ (Q.flatMap potc) * (rs sa (l.flatMap sc) * (cl true bb (Bd.bs0.map Bd.bcell) 146 (0, 0) * (Bd.bm Bd.bs0 * H)))) ∧ Q = (l.take i).map pot0 ∧ i ≤ l.length ∧ Q.length ≤ pc_ ∧ mm = l.length - i) (m := l.length) ⟨_, 0, [], none, 0, rfl, rfl, rfl, by omega, by simp, by omega⟩ ?_ ?_
    · show Ent _ (cl true b16 (coc bu ro qu 0 sa l.length sc_ L0 none 0 0 bb) 102 (0, 0) * (ow 108 4 none 0 0 [] * (rs sa (l.flatMap sc) * (cl true bb (Bd.bs0.map Bd.bcell) 146 (0, 0) * (Bd.bm Bd.bs0 * H)))))
      exact ent_take
    · rintro mm e H' ⟨g, i, Q, pa, pc_, rfl, rfl, hQ, hi, hpc, rfl⟩
      by_cases hlt : i < l.length
      · have hd : decide ((i : Int) < (l.length : Int)) = true := by simp; omega
        have h0 : 0 ≤ (i : Int) := by omega
        have h1 : (i : Int) < (l.length : Int) := by omega
        have ei : IntKind.i64.wrap ((i : Int) + 1) = ((i + 1 : Nat) : Int) := by rw [IntKind.wrap_i64]; omega
        have hQl : Q.length ≤ 4 := by rw [hQ]; simp; omega
        refine Ex.rd_some (a := sa) (l := l.flatMap sc) (by rw [flat_len sc_len]; omega) (fun ad ha => ?_)
        subst ha
        have hv : sub (l.flatMap sc) ((i : Int).toNat * 5) 5 = some (sc l[i]) := by rw [Int.toNat_natCast]; exact sub_flat sc_len l i hlt
        have hQ1 : Q ++ [pot0 l[i]] = (l.take (i + 1)).map pot0 := by rw [List.take_succ_eq_append_getElem hlt, List.map_append, hQ]; rfl
        generalize l[i] = k at *
        repeat' (first | (refine rG 6 [3, 18, 19, 20, 21] ?_; ((try (refine wK ?_; intro _)))) | (refine ex_regk (id := 7) (ts := [3, 5, 18, 19, 20]) ?_; ((try (refine o_index (by decide) rfl rfl (by first | decide | assumption | omega) (by first | decide | assumption | omega) ?_)) <;> (try (refine o_load_ra (vs := sc k) (by decide) rfl hv ?_)) <;> (try ((refine o_alloc_a (by decide) (fun b5 => ?_)))) <;> (try (first | refine o_store_a rfl rfl rfl rfl rfl ?_ | refine o_store_oa rfl rfl rfl (Nat.succ_pos _) rfl (by assumption) ?_)) <;> (try (refine ops_nilk ?_; intro _)) <;> (try ((first | refine keep_cons (v := .pointer _) rfl ?_ | refine keep_cons (v := _) rfl ?_) <;> (first | refine keep_cons (v := .pointer _) rfl ?_ | refine keep_cons (v := _) rfl ?_) <;> (first | refine keep_cons (v := .slice _ _ _) rfl ?_ | refine keep_cons (v := _) rfl ?_) <;> (first | refine keep_cons (v := .int _ _) rfl ?_ | refine keep_cons (v := _) rfl ?_) <;> (first | refine keep_cons (v := .int _ _) rfl ?_ | refine keep_cons (v := _) rfl ?_))) <;> (try refine keep_nil ?_))) | refine wC ?_ | (refine ex_split rfl ?_ ?_ <;> intro hc))
        refine Ex.ent ?_ (ent_clL (b := b5) (l' := sc k) rfl)
        repeat' (first | (refine rA 8 [3, 18, 19, 20] 12 ?_; (refine os_butBO 3 108 4 pa Q.length pc_ rfl ?_); ((refine lQ 0 ?_; ((refine lQ 1 ?_; ((refine lQ 2 ?_; ((refine lQ 3 ?_; ((refine lC (v := ?_) 5 ?_ ?_; rotate_left; (focus ((refine o_load_a (vs := sc k) (by decide) rfl rfl ?_) <;> exact lL)); ((refine lC (v := ?_) 6 ?_ ?_; rotate_left; (focus ((refine o_call (snew k) (by first | exact True.intro | (show _ < _; decide)) rfl rfl (fun _ _ => ?_)) <;> exact lL)); ((refine os_two 4 7 (by kernel_rfl) rfl rfl ?_ ?_ <;> first | (refine os_sel (d := some 28) rfl ?_ <;> (refine o_load_s (v := .slice pa Q.length pc_) (by decide) rfl rfl ?_) <;> (refine os_nil ?_) <;> ((refine oN 7 ?_ <;> ((refine o_buildSlice (by decide) rfl rfl rfl (fun _ => ?_))) <;> (refine os_nil ?_) <;> ((refine oN 8 ?_ <;> (refine o_appendT (cells := potc) (xs := Q) (ys := [pot0 k]) potc_len potc_one (by decide) rfl rfl rfl rfl rfl (by simp only [List.length_cons, List.length_nil]; omega) (by simp only [maxLen, List.length_cons, List.length_nil]; omega) (fun a' cap' hc' => ?_)) <;> (refine os_nil ?_) <;> ((refine lQ 9 ?_; ((refine lQ 10 ?_; ((refine oN 11 ?_ <;> (refine wO ?_) <;> (refine os_nil ?_) <;> ((refine dK ?_; intro _))))))))))))) | (refine os_sel (d := some 31) rfl ?_ <;> ((refine o_buildSlice (by decide) rfl rfl rfl (fun _ => ?_))) <;> (refine os_nil ?_) <;> ((refine oN 4 ?_ <;> (refine o_load_s (v := .slice pa Q.length pc_) (by decide) rfl rfl ?_) <;> (refine os_nil ?_) <;> ((refine oN 8 ?_ <;> (refine o_appendT (cells := potc) (xs := Q) (ys := [pot0 k]) potc_len potc_one (by decide) rfl rfl rfl rfl rfl (by simp only [List.length_cons, List.length_nil]; omega) (by simp only [maxLen, List.length_cons, List.length_nil]; omega) (fun a' cap' hc' => ?_)) <;> (refine os_nil ?_) <;> ((refine lQ 9 ?_; ((refine lQ 10 ?_; ((refine oN 11 ?_ <;> (refine wO ?_) <;> (refine os_nil ?_) <;> ((refine dK ?_; intro _)))))))))))))))))))))))))))) | refine wC ?_ | (refine ex_split rfl ?_ ?_ <;> intro hc))
        all_goals
          refine Ex.ent ?_ (ent_clL (b := b16) (l' := coc bu ro qu 0 (some ad) l.length sc_ L0 a' (Q ++ [pot0 k]).length cap' bb) rfl)
          repeat' (first | (refine rG 9 [3, 18, 19, 20] ?_; ((try (refine wK ?_; intro _)))) | refine wC ?_ | (refine ex_split rfl ?_ ?_ <;> intro hc))
          rw [ei]
          refine ⟨l.length - (i + 1), by omega, _, ?_, _, i + 1, Q ++ [pot0 k], a', cap', rfl, rfl, hQ1, by omega, hc', rfl⟩
          exact ent_take
      · have hil : i = l.length := by omega
        subst hil
        have hd : decide ((l.length : Int) < (l.length : Int)) = false := by simp
        rw [List.take_length] at hQ
        repeat' (first | (refine rG 6 [3, 18, 19, 20, 21] ?_; ((try (refine wK ?_; intro _)))) | (refine rG 10 [2] ?_; ((try (refine wK ?_; intro _)))) | refine wC ?_ | (refine ex_split rfl ?_ ?_ <;> intro hc))
        refine fin (.inr rfl) b16 (resl1 rfl (rv_tmp rfl)) trivial ?_
        have ok : OaOk (newCs bu ro qu l) ⟨sa, sc_, L0, pa, pc_, bb, Bd.bs0⟩ := {
          l8 := rfl
          cells := rfl
          pc := by show (l.map pot0).length ≤ pc_; rw [← hQ]; exact hpc
          sc := hsc
          b8 := rfl
          told := rfl
          tc := bs0_tc }
        refine Ent.trans ?_ (co_mk ok)
        rw [COr_flat]
        show Ent _ (cl true b16 (coc bu ro qu 0 sa l.length sc_ L0 pa (l.map pot0).length pc_ bb) 102 (0, 0) * (rs sa (l.flatMap sc) * (1 * (ow 108 4 pa (l.map pot0).length pc_ ((l.map pot0).flatMap potc) * (cl true bb (Bd.bs0.map Bd.bcell) 146 (0, 0) * (Bd.bm Bd.bs0 * H))))))
        rw [← hQ]
        exact ent_take
end Go.Proofs.YtcelailgedndnaaGreatS
namespace Go.Proofs.YtcelailgedndnaaGreatS.R
open Go.Proofs.YtcelailgedndnaaGreatS
open Go.RowKit Go.ChangeShapes Go.WideShapes
set_option linter.unusedVariables false
set_option linter.unusedSimpArgs false
theorem B_low (x : Int) (h1 : x ≤ 255) (i : Nat) (hi : 8 ≤ i) : (B x).getLsbD i = false := by
  unfold B
  rw [BitVec.getLsbD_ofNat]
  have : x.toNat.testBit i = false := Nat.testBit_lt_two_pow (Nat.lt_of_lt_of_le (show x.toNat < 2 ^ 8 by omega) (Nat.pow_le_pow_right (by decide) hi))
  rw [this, Bool.and_false]
theorem low255 : ∀ i : Fin 8, (255#64).getLsbD i.val = true := by decide
theorem high255 : ∀ i : Fin 64, 8 ≤ i.val → (255#64).getLsbD i.val = false := by decide
theorem bl255 (x y : Int) (h1 : x ≤ 255) (h2 : y ≤ 255) : bl (B x ||| B y) 255#64 = true := (bl_iff _ _).2 fun i hi h => by
  by_cases h8 : i < 8
  · exact low255 ⟨i, h8⟩
  · rw [gj, B_low x h1 i (by omega), B_low y h2 i (by omega)] at h; cases h
theorem B_ne (x : Int) (h0 : 1 ≤ x) (h1 : x ≤ 255) : B x ≠ 0 := fun e => by
  have := congrArg BitVec.toNat e
  unfold B at this
  rw [BitVec.toNat_ofNat] at this
  have h2 : (0 : BitVec 64).toNat = 0 := rfl
  rw [h2] at this; omega
theorem rs1_sk (k : Kk) : rs1 (sk k) = true := by
  have b1 := wn_bd k.1 1 255 (by omega)
  have b2 := wn_bd k.2.1 0 255 (by omega)
  have b3 := wn_bd k.2.2.1 2 4 (by omega)
  have b4 := wn_bd k.2.2.2.1 1 4 (by omega)
  have b5 := wn_bd k.2.2.2.2 1 6 (by omega)
  unfold rs1 rs2 sk
  simp only
  rw [decide_eq_false (B_ne _ b1.1 b1.2), bl255 _ _ b1.2 b2.2, decide_eq_true (by omega : wn k.2.2.1 2 4 ≥ 2), decide_eq_true (by omega : wn k.2.2.1 2 4 ≤ 8), decide_eq_true (by omega : wn k.2.2.2.1 1 4 ≥ 1), decide_eq_true (by omega : wn k.2.2.2.1 1 4 ≤ 4), decide_eq_true (by omega : wn k.2.2.2.2 1 6 ≥ 1), decide_eq_true (by omega : wn k.2.2.2.2 1 6 ≤ 100)]
  rfl
theorem all_sk (l : List Kk) : (l.map sk).all rs1 = true := by
  rw [List.all_eq_true]
  intro s hs
  obtain ⟨k, _, rfl⟩ := List.mem_map.1 hs
  exact rs1_sk k
set_option linter.unusedVariables false
set_option linter.unusedSimpArgs false
attribute [local irreducible] Ops Ex Spec T V QO OA Rn
end Go.Proofs.YtcelailgedndnaaGreatS.R
namespace Go.Proofs.YtcelailgedndnaaGreatS
open Go.RowKit
set_option linter.unusedVariables false
set_option linter.unusedSimpArgs false
/-- A setup of numbers: its sinks. -/
def kS (l : List R.Kk) : List Sk := (l.take 2).map R.sk
theorem kS_len (l : List R.Kk) : (kS l).length ≤ 2 := by unfold kS; rw [List.length_map, List.length_take]; omega
theorem kS_right (bu ro qu : Int) (l : List R.Kk) : rightS (wn bu 1 4) (wn ro 1 8) (wn qu 0 30) (kS l) = true := by
  have b1 := wn_bd bu 1 4 (by omega)
  have b2 := wn_bd ro 1 8 (by omega)
  have b3 := wn_bd qu 0 30 (by omega)
  have h4 := kS_len l
  have h5 : (kS l).all R.rs1 = true := R.all_sk _
  unfold rightS
  rw [h5]
  simp; omega
theorem newCs_ok (bu ro qu : Int) (l : List Sk) (hl : l.length ≤ 4) : CsOk (newCs bu ro qu l) 0 where
  c8 := rfl
  cell := by
    intro t c h
    exfalso
    unfold cell newCs at h
    simp only [List.getElem?_replicate] at h
    split at h <;> cases h
  kinds := by show (l.map _).map _ = _; rw [List.map_map]; rfl
  sinks := hl
  t8 := rfl
  told := by
    intro x hx
    have hx : x ∈ List.replicate 8 ([] : List Bd.Rl) := hx
    rw [(List.mem_replicate.1 hx).2]; exact Nat.le_refl _
  tk0 := Int.le_refl _
  tk1 := Int.le_refl _
set_option linter.unusedVariables false
set_option linter.unusedSimpArgs false
attribute [local irreducible] Ops Ex Spec T V QO OA Rn OS
set_option maxHeartbeats 4000000 in
theorem setupK (H : HP) (a : Option Addr) (l : List R.Kk) (cap : Nat) (bu ro qu : Int) [hr : RdC H a (l.flatMap R.kc)] (hl : l.length ≤ 9223372036854775807) :
    Spec Tryz.prog 9 [.agg (List.toArray [.int .i64 bu, .int .i64 ro, .int .i64 qu, .slice a l.length cap])] H (X := Option Addr × Nat) (fun y => .agg (List.toArray [.int .i64 (wn bu 1 4), .int .i64 (wn ro 1 8), .int .i64 (wn qu 0 30), .slice y.1 (kS l).length y.2])) (fun _ => True)
      (fun y => ow 74 5 y.1 (kS l).length y.2 ((kS l).flatMap sc) * H) := by
  have hsk := fun (H' : HP) (h : RdC H' a (l.flatMap R.kc)) => R.sinks H' a l l.length cap (hr := h) rfl rfl hl
  refine spec_of Tryz.func9 rfl Tryz.ntmps9 rfl ?_
  repeat' (first | (refine rG 0 [1, 2] ?_; ((try ((refine o_box (by decide) (v := .agg (List.toArray _)) rfl rfl (fun b1 => ?_)))) <;> (try ((refine o_alloc_a (by decide) (fun b2 => ?_)))) <;> (try (refine wK ?_; intro _)))) | refine wC ?_ | (refine ex_split rfl ?_ ?_ <;> intro hc))
  repeat' (first | (refine rA 1 [2] 14 ?_; (refine os_but 2 rfl ?_); ((refine lQ 0 ?_; ((refine lQ 1 ?_; ((refine lC (v := ?_) 2 ?_ ?_; rotate_left; (focus ((refine o_call (within _ _ _ (by decide) (by decide) (by decide) (by decide)) (by first | exact True.intro | (show _ < _; decide)) rfl rfl (fun _ _ => ?_)) <;> exact lL)); ((refine lQ 3 ?_; ((refine lQ 4 ?_; ((refine lC (v := ?_) 5 ?_ ?_; rotate_left; (focus ((refine o_call (within _ _ _ (by decide) (by decide) (by decide) (by decide)) (by first | exact True.intro | (show _ < _; decide)) rfl rfl (fun _ _ => ?_)) <;> exact lL)); ((refine lQ 6 ?_; ((refine lQ 7 ?_; ((refine lC (v := ?_) 8 ?_ ?_; rotate_left; (focus ((refine o_call (within _ _ _ (by decide) (by decide) (by decide) (by decide)) (by first | exact True.intro | (show _ < _; decide)) rfl rfl (fun _ _ => ?_)) <;> exact lL)); ((refine lQ 9 ?_; ((refine lQ 10 ?_; ((refine oN 11 ?_ <;> ((refine o_callH (hsk _ inferInstance) (by first | exact True.intro | (show _ < _; decide)) rfl rfl (fun y _ => ?_); obtain ⟨sa, sc_⟩ := y)) <;> (refine os_nil ?_) <;> ((refine lQ 12 ?_; ((refine oN 13 ?_ <;> (refine wO ?_) <;> (refine os_nil ?_) <;> ((refine dK ?_; intro _))))))))))))))))))))))))))))))) | refine wC ?_ | (refine ex_split rfl ?_ ?_ <;> intro hc))
  all_goals
    refine fin (.inr rfl) (sa, sc_) (resl1 rfl (rv_cell_a rfl rfl)) trivial ?_
    show Ent _ (ow 74 5 sa ((l.take 2).map R.sk).length sc_ (((l.take 2).map R.sk).flatMap sc) * H)
    exact ent_take
theorem duoK (H : HP) : Spec Tryz.prog 20 [] H (X := Nat) (fun y => .agg (List.toArray [.int .i64 4, .int .i64 8, .int .i64 50, .slice (some ⟨y, 0, none⟩) 1 1])) (fun _ => True) (fun y => ow 74 5 (some ⟨y, 0, none⟩) 1 1 (sc dk) * H) := by
  refine spec_of Tryz.func20 rfl Tryz.ntmps20 rfl ?_
  repeat' (first | (refine rG 0 [0] ?_; ((try ((refine o_alloc_a (by decide) (fun b0 => ?_)))) <;> (try (refine wK ?_; intro _)))) | (refine ex_regk (id := 1) (ts := [0]) ?_; ((try (refine o_build (cells := sc dk) (by decide) rfl ?_)) <;> (try ((refine o_buildSlice (by decide) rfl rfl rfl (fun b2 => ?_)))) <;> (try (refine o_build (by decide) rfl ?_)) <;> (try (first | refine o_store_a rfl rfl rfl rfl rfl ?_ | refine o_store_oa rfl rfl rfl (Nat.succ_pos _) rfl (by assumption) ?_)) <;> (try (refine ops_nilk ?_; intro _)) <;> (try ((first | refine keep_cons (v := .pointer _) rfl ?_ | refine keep_cons (v := _) rfl ?_))) <;> (try refine keep_nil ?_))) | refine wC ?_ | (refine ex_split rfl ?_ ?_ <;> intro hc))
  refine fin (.inr rfl) b2 (resl1 rfl (rv_cell_a rfl rfl)) trivial ?_
  refine Ent.trans (ent_owL 74 5 (some ⟨b2, 0, none⟩) 1 1 (l' := sc dk) rfl) ?_
  exact ent_take
def wl : List At := [(none, 0, wa1), (none, 0, wa2), (none, 0, wa3), (none, 0, wa4), (none, 0, wa5)]
set_option maxRecDepth 100000 in
set_option maxHeartbeats 8000000 in
theorem awakeK : Spec Tryz.prog 19 [] 1 (X := Unit) (fun _ => .bool true) (fun _ => True) (fun _ => 1) := by
  have hnew := fun (y : Nat) (H' : HP) (h : RdC H' (some ⟨y, 0, none⟩) ([dk].flatMap sc)) => coNew H' (some ⟨y, 0, none⟩) [dk] 1 4 8 50 (hr := h) (by decide) w_right
  refine spec_of Tryz.func19 rfl Tryz.ntmps19 rfl ?_
  repeat' (first | (refine rG 0 [] ?_; ((try (refine wK ?_; intro _)))) | (refine rG 1 [1] ?_; ((try ((refine o_callH (duoK _) (by first | exact True.intro | (show _ < _; decide)) rfl rfl (fun y _ => ?_); refine Ops.ent ?_ (ent_owL 74 5 (some ⟨y, 0, none⟩) 1 1 (l' := [dk].flatMap sc) rfl)))) <;> (try ((refine o_callH (hnew _ _ inferInstance) (by first | exact True.intro | (show _ < _; decide)) rfl rfl (fun b _ => ?_)))) <;> (try (refine wK ?_; intro _)))) | refine wC ?_ | (refine ex_split rfl ?_ ?_ <;> intro hc))
  repeat' (first | (refine rG 2 [1, 7] ?_; ((try (refine wK ?_; intro _)))) | (refine ex_regk (id := 4) (ts := [1, 2]) ?_; ((try (refine o_build (cells := ppc none 0 dp) (by decide) rfl ?_)) <;> (try ((refine o_alloc_a (by decide) (fun b2 => ?_)))) <;> (try (first | refine o_store_a rfl rfl rfl rfl rfl ?_ | refine o_store_oa rfl rfl rfl (Nat.succ_pos _) rfl (by assumption) ?_)) <;> (try (refine ops_nilk ?_; intro _)) <;> (try ((first | refine keep_cons (v := .pointer _) rfl ?_ | refine keep_cons (v := _) rfl ?_) <;> (first | refine keep_cons (v := .pointer _) rfl ?_ | refine keep_cons (v := _) rfl ?_))) <;> (try refine keep_nil ?_))) | refine wC ?_ | (refine ex_split rfl ?_ ?_ <;> intro hc))
  refine Ex.ent ?_ (ent_clL (b := b2) (l' := ppc none 0 dp) rfl)
  have hrd : ∀ (H : HP), ∀ r ∈ wl, RdC H r.1 (r.2.2.2.2.2.2.1.1.flatMap oc) := by
    intro H r hr
    simp only [wl, List.mem_cons, List.not_mem_nil, or_false] at hr
    rcases hr with rfl | rfl | rfl | rfl | rfl <;> exact rdc_nil H
  have hops : ∀ r ∈ wl, r.2.2.2.2.2.2.1.1.length ≤ 1000000 := by
    intro r hr
    simp only [wl, List.mem_cons, List.not_mem_nil, or_false] at hr
    rcases hr with rfl | rfl | rfl | rfl | rfl <;> exact Nat.zero_le _
  have hdo := fun (b20 : Nat) (X' H' : HP) (h1 : Take (CO b (newCs 4 8 50 [dk])) X' H') (h2 : RdC H' (some ⟨b20, 0, none⟩) (wl.flatMap ae)) => coDoN b (newCs 4 8 50 [dk]) (some ⟨b20, 0, none⟩) wl 5 (t := h1) (hr := h2) (hrd H') hops (newCs_ok 4 8 50 [dk] (by decide)) (by decide) (by decide)
  repeat' (first | (refine ex_regk (id := 5) (ts := [3]) ?_; ((try (first | refine o_mv (v := .pointer _) (by decide) rfl ?_ | refine o_mv (by decide) rfl ?_)) <;> (try (refine o_load_a (vs := ppc none 0 dp) (by decide) rfl rfl ?_)) <;> (try (refine o_build (cells := acc none 0 wa1) (by decide) rfl ?_)) <;> (try (refine o_build (by decide) rfl ?_)) <;> (try (refine o_build (by decide) rfl ?_)) <;> (try (refine o_build (cells := acc none 0 wa2) (by decide) rfl ?_)) <;> (try (refine o_build (by decide) rfl ?_)) <;> (try (refine o_build (by decide) rfl ?_)) <;> (try (refine o_build (cells := acc none 0 wa3) (by decide) rfl ?_)) <;> (try (refine o_build (cells := acc none 0 wa4) (by decide) rfl ?_)) <;> (try (refine o_build (cells := acc none 0 wa5) (by decide) rfl ?_)) <;> (try ((refine o_buildSlice (by decide) rfl rfl rfl (fun b20 => ?_); refine Ops.ent ?_ (ent_owL 41 15 (some ⟨b20, 0, none⟩) 5 5 (l' := wl.flatMap ae) rfl)))) <;> (try ((refine o_callH (hdo _ _ _ inferInstance inferInstance) (by first | exact True.intro | (show _ < _; decide)) rfl rfl (fun y hy => ?_); obtain ⟨ra, rc, A⟩ := y; obtain ⟨hA, hrc⟩ := hy))) <;> (try (first | refine o_as (v := .slice _ _ _) (by decide) rfl ?_ | refine o_as (by decide) rfl ?_)) <;> (try (refine ops_nilk ?_; intro _)) <;> (try ((first | refine keep_cons (v := .slice _ _ _) rfl ?_ | refine keep_cons (v := _) rfl ?_))) <;> (try refine keep_nil ?_))) | refine wC ?_ | (refine ex_split rfl ?_ ?_ <;> intro hc))
  have hA : A.map (·.2) = [(0, [], []), (0, [], []), (0, [], []), (0, [], []), (0, [(0, 0, 5, 1, 1#64)], [])] := Eq.trans hA w_all
  obtain ⟨x1, x2, x3, x4, x5, rfl⟩ : ∃ a b c d e, A = [a, b, c, d, e] := by
    have := congrArg List.length hA
    rw [List.length_map] at this
    match A, this with
    | [a, b, c, d, e], _ => exact ⟨a, b, c, d, e, rfl⟩
  have hx5 : x5.2 = (0, [(0, 0, 5, 1, 1#64)], []) := by
    have := congrArg (fun l => l[4]?) hA
    exact Option.some.inj this
  obtain ⟨⟨⟨qa, qc⟩, ⟨la, lc_⟩⟩, an5⟩ := x5
  have hx5 : an5 = (0, [(0, 0, 5, 1, 1#64)], []) := hx5
  subst hx5
  refine Ex.rd_some (a := ra) (l := [x1, x2, x3, x4, (((qa, qc), (la, lc_)), ((0, [(0, 0, 5, 1, 1#64)], []) : An))].flatMap ancx) (by rw [flat_len ancx_len]; simp) (fun rd ha => ?_)
  subst ha
  refine Ex.ent ?_ (ent_head (anms [x1, x2, x3, x4, (((qa, qc), (la, lc_)), ((0, [(0, 0, 5, 1, 1#64)], []) : An))]))
  refine Ex.ent ?_ (Ent.trans (show Ent _ ((anm x1.1 x1.2 * (anm x2.1 x2.2 * (anm x3.1 x3.2 * (anm x4.1 x4.2 * (anm ((qa, qc), (la, lc_)) (0, [(0, 0, 5, 1, 1#64)], []) * 1))))) * _) from Ent.refl _) (ent_anm (y := ((qa, qc), (la, lc_))) (e := 0) (rows := [(0, 0, 5, 1, 1#64)]) (rels := [])))
  refine Ex.rd_some (a := qa) (l := [((0, 0, 5, 1, 1#64) : Rw)].flatMap rwc) (by decide) (fun qd ha => ?_)
  subst ha
  have hv1 : ([x1, x2, x3, x4, (((some qd, qc), (la, lc_)), ((0, [(0, 0, 5, 1, 1#64)], []) : An))].flatMap ancx)[(4 : Int).toNat * 3 + 1]? = some (.slice (some qd) 1 qc) := rfl
  have hv2 : ([((0, 0, 5, 1, 1#64) : Rw)].flatMap rwc)[(0 : Int).toNat * 5 + 2]? = some (.int .i64 5) := rfl
  show Ex Tryz.prog _ _ (put _ 3 (.slice (some rd) 5 rc)) _ _
  repeat' (first | (refine ex_regk (id := 6) (ts := [0]) ?_; ((try (first | refine o_mv (v := .slice _ _ _) (by decide) rfl ?_ | refine o_mv (by decide) rfl ?_)) <;> (try (refine o_len (by decide) rfl rfl ?_)) <;> (try (refine o_int (by decide) rfl rfl rfl ?_)) <;> (try (first | refine o_mv (v := .bool _) (by decide) rfl ?_ | refine o_mv (by decide) rfl ?_)) <;> (try (first | refine g_no rfl (by decide) rfl (by decide) ?_ | refine g_undef rfl rfl (by decide) ?_ | (refine g_yes rfl (by decide) rfl ?_; (first | refine o_mv (v := .slice _ _ _) (by decide) rfl ?_ | refine o_mv (by decide) rfl ?_)) | refine g_noF rfl (by decide) rfl (by assumption) (by decide) ?_ | (refine g_yesT rfl (by decide) rfl (by assumption) ?_; (first | refine o_mv (v := .slice _ _ _) (by decide) rfl ?_ | refine o_mv (by decide) rfl ?_)) | ((refine g_split rfl (by decide) rfl (by decide) ?_ ?_ <;> intro hc); (first | refine o_mv (v := .slice _ _ _) (by decide) rfl ?_ | refine o_mv (by decide) rfl ?_)))) <;> (try (first | refine g_no rfl (by decide) rfl (by decide) ?_ | refine g_undef rfl rfl (by decide) ?_ | (refine g_yes rfl (by decide) rfl ?_; (refine o_index (by decide) rfl rfl (by first | decide | assumption | omega) (by first | decide | assumption | omega) ?_)) | refine g_noF rfl (by decide) rfl (by assumption) (by decide) ?_ | (refine g_yesT rfl (by decide) rfl (by assumption) ?_; (refine o_index (by decide) rfl rfl (by first | decide | assumption | omega) (by first | decide | assumption | omega) ?_)) | ((refine g_split rfl (by decide) rfl (by decide) ?_ ?_ <;> intro hc); (refine o_index (by decide) rfl rfl (by first | decide | assumption | omega) (by first | decide | assumption | omega) ?_)))) <;> (try (first | refine g_no rfl (by decide) rfl (by decide) ?_ | refine g_undef rfl rfl (by decide) ?_ | (refine g_yes rfl (by decide) rfl ?_; (first | refine o_fieldAddr' (by decide) rfl ?_ | refine o_fieldAddrS (by decide) rfl ?_)) | refine g_noF rfl (by decide) rfl (by assumption) (by decide) ?_ | (refine g_yesT rfl (by decide) rfl (by assumption) ?_; (first | refine o_fieldAddr' (by decide) rfl ?_ | refine o_fieldAddrS (by decide) rfl ?_)) | ((refine g_split rfl (by decide) rfl (by decide) ?_ ?_ <;> intro hc); (first | refine o_fieldAddr' (by decide) rfl ?_ | refine o_fieldAddrS (by decide) rfl ?_)))) <;> (try (first | refine g_no rfl (by decide) rfl (by decide) ?_ | refine g_undef rfl rfl (by decide) ?_ | (refine g_yes rfl (by decide) rfl ?_; (refine o_load_r (by decide) rfl hv1 ?_)) | refine g_noF rfl (by decide) rfl (by assumption) (by decide) ?_ | (refine g_yesT rfl (by decide) rfl (by assumption) ?_; (refine o_load_r (by decide) rfl hv1 ?_)) | ((refine g_split rfl (by decide) rfl (by decide) ?_ ?_ <;> intro hc); (refine o_load_r (by decide) rfl hv1 ?_)))) <;> (try (first | refine g_no rfl (by decide) rfl (by decide) ?_ | refine g_undef rfl rfl (by decide) ?_ | (refine g_yes rfl (by decide) rfl ?_; (refine o_len (by decide) rfl rfl ?_)) | refine g_noF rfl (by decide) rfl (by assumption) (by decide) ?_ | (refine g_yesT rfl (by decide) rfl (by assumption) ?_; (refine o_len (by decide) rfl rfl ?_)) | ((refine g_split rfl (by decide) rfl (by decide) ?_ ?_ <;> intro hc); (refine o_len (by decide) rfl rfl ?_)))) <;> (try (first | refine g_no rfl (by decide) rfl (by decide) ?_ | refine g_undef rfl rfl (by decide) ?_ | (refine g_yes rfl (by decide) rfl ?_; (refine o_int (by decide) rfl rfl rfl ?_)) | refine g_noF rfl (by decide) rfl (by assumption) (by decide) ?_ | (refine g_yesT rfl (by decide) rfl (by assumption) ?_; (refine o_int (by decide) rfl rfl rfl ?_)) | ((refine g_split rfl (by decide) rfl (by decide) ?_ ?_ <;> intro hc); (refine o_int (by decide) rfl rfl rfl ?_)))) <;> (try (first | refine o_pick_t (v := .bool _) (by decide) rfl rfl ?_ | refine o_pick_f (v := .bool _) (by decide) rfl rfl ?_)) <;> (try (first | refine o_mv (v := .bool _) (by decide) rfl ?_ | refine o_mv (by decide) rfl ?_)) <;> (try (first | refine g_no rfl (by decide) rfl (by decide) ?_ | refine g_undef rfl rfl (by decide) ?_ | (refine g_yes rfl (by decide) rfl ?_; (first | refine o_mv (v := .slice _ _ _) (by decide) rfl ?_ | refine o_mv (by decide) rfl ?_)) | refine g_noF rfl (by decide) rfl (by assumption) (by decide) ?_ | (refine g_yesT rfl (by decide) rfl (by assumption) ?_; (first | refine o_mv (v := .slice _ _ _) (by decide) rfl ?_ | refine o_mv (by decide) rfl ?_)) | ((refine g_split rfl (by decide) rfl (by decide) ?_ ?_ <;> intro hc); (first | refine o_mv (v := .slice _ _ _) (by decide) rfl ?_ | refine o_mv (by decide) rfl ?_)))) <;> (try (first | refine g_no rfl (by decide) rfl (by decide) ?_ | refine g_undef rfl rfl (by decide) ?_ | (refine g_yes rfl (by decide) rfl ?_; (refine o_index (by decide) rfl rfl (by first | decide | assumption | omega) (by first | decide | assumption | omega) ?_)) | refine g_noF rfl (by decide) rfl (by assumption) (by decide) ?_ | (refine g_yesT rfl (by decide) rfl (by assumption) ?_; (refine o_index (by decide) rfl rfl (by first | decide | assumption | omega) (by first | decide | assumption | omega) ?_)) | ((refine g_split rfl (by decide) rfl (by decide) ?_ ?_ <;> intro hc); (refine o_index (by decide) rfl rfl (by first | decide | assumption | omega) (by first | decide | assumption | omega) ?_)))) <;> (try (first | refine g_no rfl (by decide) rfl (by decide) ?_ | refine g_undef rfl rfl (by decide) ?_ | (refine g_yes rfl (by decide) rfl ?_; (first | refine o_fieldAddr' (by decide) rfl ?_ | refine o_fieldAddrS (by decide) rfl ?_)) | refine g_noF rfl (by decide) rfl (by assumption) (by decide) ?_ | (refine g_yesT rfl (by decide) rfl (by assumption) ?_; (first | refine o_fieldAddr' (by decide) rfl ?_ | refine o_fieldAddrS (by decide) rfl ?_)) | ((refine g_split rfl (by decide) rfl (by decide) ?_ ?_ <;> intro hc); (first | refine o_fieldAddr' (by decide) rfl ?_ | refine o_fieldAddrS (by decide) rfl ?_)))) <;> (try (first | refine g_no rfl (by decide) rfl (by decide) ?_ | refine g_undef rfl rfl (by decide) ?_ | (refine g_yes rfl (by decide) rfl ?_; (refine o_load_r (by decide) rfl hv1 ?_)) | refine g_noF rfl (by decide) rfl (by assumption) (by decide) ?_ | (refine g_yesT rfl (by decide) rfl (by assumption) ?_; (refine o_load_r (by decide) rfl hv1 ?_)) | ((refine g_split rfl (by decide) rfl (by decide) ?_ ?_ <;> intro hc); (refine o_load_r (by decide) rfl hv1 ?_)))) <;> (try (first | refine g_no rfl (by decide) rfl (by decide) ?_ | refine g_undef rfl rfl (by decide) ?_ | (refine g_yes rfl (by decide) rfl ?_; (refine o_index (by decide) rfl rfl (by first | decide | assumption | omega) (by first | decide | assumption | omega) ?_)) | refine g_noF rfl (by decide) rfl (by assumption) (by decide) ?_ | (refine g_yesT rfl (by decide) rfl (by assumption) ?_; (refine o_index (by decide) rfl rfl (by first | decide | assumption | omega) (by first | decide | assumption | omega) ?_)) | ((refine g_split rfl (by decide) rfl (by decide) ?_ ?_ <;> intro hc); (refine o_index (by decide) rfl rfl (by first | decide | assumption | omega) (by first | decide | assumption | omega) ?_)))) <;> (try (first | refine g_no rfl (by decide) rfl (by decide) ?_ | refine g_undef rfl rfl (by decide) ?_ | (refine g_yes rfl (by decide) rfl ?_; (first | refine o_fieldAddr' (by decide) rfl ?_ | refine o_fieldAddrS (by decide) rfl ?_)) | refine g_noF rfl (by decide) rfl (by assumption) (by decide) ?_ | (refine g_yesT rfl (by decide) rfl (by assumption) ?_; (first | refine o_fieldAddr' (by decide) rfl ?_ | refine o_fieldAddrS (by decide) rfl ?_)) | ((refine g_split rfl (by decide) rfl (by decide) ?_ ?_ <;> intro hc); (first | refine o_fieldAddr' (by decide) rfl ?_ | refine o_fieldAddrS (by decide) rfl ?_)))) <;> (try (first | refine g_no rfl (by decide) rfl (by decide) ?_ | refine g_undef rfl rfl (by decide) ?_ | (refine g_yes rfl (by decide) rfl ?_; (refine o_load_r (by decide) rfl hv2 ?_)) | refine g_noF rfl (by decide) rfl (by assumption) (by decide) ?_ | (refine g_yesT rfl (by decide) rfl (by assumption) ?_; (refine o_load_r (by decide) rfl hv2 ?_)) | ((refine g_split rfl (by decide) rfl (by decide) ?_ ?_ <;> intro hc); (refine o_load_r (by decide) rfl hv2 ?_)))) <;> (try (first | refine g_no rfl (by decide) rfl (by decide) ?_ | refine g_undef rfl rfl (by decide) ?_ | (refine g_yes rfl (by decide) rfl ?_; (refine o_int (by decide) rfl rfl rfl ?_)) | refine g_noF rfl (by decide) rfl (by assumption) (by decide) ?_ | (refine g_yesT rfl (by decide) rfl (by assumption) ?_; (refine o_int (by decide) rfl rfl rfl ?_)) | ((refine g_split rfl (by decide) rfl (by decide) ?_ ?_ <;> intro hc); (refine o_int (by decide) rfl rfl rfl ?_)))) <;> (try (first | refine o_pick_t (v := .bool _) (by decide) rfl rfl ?_ | refine o_pick_f (v := .bool _) (by decide) rfl rfl ?_)) <;> (try (first | refine o_as (v := .bool _) (by decide) rfl ?_ | refine o_as (by decide) rfl ?_)) <;> (try (refine ops_nilk ?_; intro _)) <;> (try ((first | refine keep_cons (v := .bool _) rfl ?_ | refine keep_cons (v := _) rfl ?_))) <;> (try refine keep_nil ?_))) | refine wC ?_ | (refine ex_split rfl ?_ ?_ <;> intro hc))
  exact fin (.inr rfl) () (resl1 rfl (rv_tmp rfl)) trivial (Ent.toOne _)
end Go.Proofs.YtcelailgedndnaaGreatS
namespace Go.Proofs.YtcelailgedndnaaGreatS
open Go.RowKit Go.ChangeShapes Go.WideShapes
set_option linter.unusedVariables false
set_option linter.unusedSimpArgs false
set_option maxRecDepth 100000
/-- Numbers of which a setup is made: budget, room, quota, sinks. -/
abbrev Su : Type := Int × Int × Int × Option Addr × List R.Kk × Nat
def suc (z : Su) : List Value := [.int .i64 z.1, .int .i64 z.2.1, .int .i64 z.2.2.1, .slice z.2.2.2.1 z.2.2.2.2.1.length z.2.2.2.2.2]
def suH (z : Su) : HP := rs z.2.2.2.1 (z.2.2.2.2.1.flatMap R.kc)
theorem list4 {α : Type} {l : List α} (h : l.length = 4) : ∃ a b c d, l = [a, b, c, d] := by
  match l, h with
  | [a, b, c, d], _ => exact ⟨a, b, c, d, rfl⟩
theorem openSU {H : Type} {enc : TypeId × Value → H} {W : World} {b0 base : Nat} {held : Bool} {v : Value} {d : DataW H} {p : List MemPlace} (hv : Value.okWide Tryz.prog W .any b0 24 v) (h : DataW.Trod enc Tryz.prog W base (fun _ => true) held 24 v d p) :
    ∃ z : Su, v = .agg (suc z).toArray ∧ (Fits W (suH z) ∧ z.2.2.2.2.1.length ≤ maxLen) := by
  obtain ⟨cs, rfl, hsz⟩ := okWide_struct Tryz.underlying24 hv
  have c3 : Tryz.prog.cellsOf 3 = 1 := by kernel_rfl
  have c26 : Tryz.prog.cellsOf 22 = 1 := by kernel_rfl
  have c42 : Tryz.prog.cellsOf 24 = 4 := by kernel_rfl
  obtain ⟨l⟩ := cs
  obtain ⟨v0, v1, v2, v3, rfl⟩ := list4 (show l.length = 4 from hsz.trans c42)
  obtain ⟨fuel, hf⟩ := h
  obtain ⟨xs, n, _, _, hl, hlen, hfl⟩ := DataW.trod_struct Tryz.underlying24 hf
  obtain ⟨y0, y1, y2, y3, rfl⟩ := list4 (show xs.length = 4 from hlen)
  have h0 := hfl 0 _ rfl
  have h1 := hfl 1 _ rfl
  have h2 := hfl 2 _ rfl
  have h3 := hfl 3 _ rfl
  simp only [List.getElem?_cons_zero, List.getElem?_cons_succ] at h0 h1 h2 h3
  obtain ⟨m0, e0, _, _⟩ := DataW.trod_int Tryz.underlying3 h0
  obtain ⟨m1, e1, _, _⟩ := DataW.trod_int Tryz.underlying3 h1
  obtain ⟨m2, e2, _, _⟩ := DataW.trod_int Tryz.underlying3 h2
  obtain ⟨a, L, c, e3, hfit, _, hc, hm⟩ := slice_typed R.kc_len (by decide) R.shapeSK Tryz.underlying22 (by kernel_rfl) h3
  simp [Value.cells, c3, c26] at e0 e1 e2 e3
  subst e0; subst e1; subst e2; subst e3
  exact ⟨(m0, m1, m2, a, L, c), rfl, hfit, Nat.le_trans hc hm⟩
theorem shapeKA {H : Type} {enc : TypeId × Value → H} {W : World} {base : Nat} {held : Bool} : ∀ n cs y, DataW.trod enc Tryz.prog W base (fun _ => true) held n 120 cs = some y → ∃ x : R.Kn, cs = R.kac x ∧ Fits W (R.pm x.2.2.2.2.1) := by
  intro n cs y h
  have c3 : Tryz.prog.cellsOf 3 = 1 := by kernel_rfl
  have c41 : Tryz.prog.cellsOf 116 = 7 := by kernel_rfl
  have c43 : Tryz.prog.cellsOf 118 = 4 := by kernel_rfl
  have c52 : Tryz.prog.cellsOf 120 = 15 := by kernel_rfl
  obtain ⟨xs, n, _, _, hl, hlen, hfl⟩ := DataW.trod_struct Tryz.underlying120 h
  obtain ⟨y0, y1, y2, y3, y4, y5, rfl⟩ := R.list6 (show xs.length = 6 from hlen)
  have h0 := hfl 0 _ rfl
  have h1 := hfl 1 _ rfl
  have h2 := hfl 2 _ rfl
  have h3 := hfl 3 _ rfl
  have h4 := hfl 4 _ rfl
  have h5 := hfl 5 _ rfl
  simp only [List.getElem?_cons_zero, List.getElem?_cons_succ] at h0 h1 h2 h3 h4 h5
  obtain ⟨m0, e0, _, w0⟩ := DataW.trod_int Tryz.underlying3 h0
  obtain ⟨m1, e1, _, w1⟩ := DataW.trod_int Tryz.underlying3 h1
  obtain ⟨m2, e2, _, w2⟩ := DataW.trod_int Tryz.underlying3 h2
  obtain ⟨m3, e3, _, w3⟩ := DataW.trod_int Tryz.underlying3 h3
  obtain ⟨k, e4, hg⟩ := R.shapeKP _ _ _ h4
  obtain ⟨q, e5⟩ := R.shapeN _ _ _ h5
  have hl : cs.length = 15 := hl.trans c52
  match cs, hl with
  | [v0, v1, v2, v3, v4, v5, v6, v7, v8, v9, v10, v11, v12, v13, v14], _ =>
    simp [c3, c41, c43, R.pc, R.nc] at e0 e1 e2 e3 e4 e5
    obtain ⟨rfl, rfl, rfl, rfl, rfl, rfl, rfl⟩ := e4
    obtain ⟨rfl, rfl, rfl, rfl⟩ := e5
    subst e0; subst e1; subst e2; subst e3
    exact ⟨(m0, m1, m2, m3, k, q), rfl, hg⟩
/-- The rows of the acts' pipes. -/
def pmS : List R.Kn → HP
  | [] => 1
  | x :: l => R.pm x.2.2.2.2.1 * pmS l
theorem fits_pmS {W : World} (L : List R.Kn) (h : ∀ r ∈ L, Fits W (R.pm r.2.2.2.2.1)) : Fits W (pmS L) := by
  induction L with
  | nil => exact Fits.one W
  | cons r L ih => exact Fits.mul (h r (List.mem_cons_self ..)) (ih fun x hx => h x (List.mem_cons_of_mem _ hx))
theorem rd_pmS (x : R.Kn) : ∀ (l : List R.Kn), x ∈ l → RdP (pmS l) x.2.2.2.2.1.1.1 (ints .i64 x.2.2.2.2.1.1.2.1) ∧ RdP (pmS l) x.2.2.2.2.1.2.1.1 (ints .i64 x.2.2.2.2.1.2.1.2.1) := by
  intro l
  induction l with
  | nil => intro h; simp at h
  | cons y l ih =>
    intro h
    rcases List.mem_cons.1 h with h | h
    · rw [← h]; exact ⟨((rd_rs _ _).left _).left (pmS l), ((rd_rs _ _).right _).left (pmS l)⟩
    · exact ⟨(ih h).1.right _, (ih h).2.right _⟩
theorem rdc_pmS {X H : HP} (l : List R.Kn) [t : Take (pmS l) X H] : ∀ x ∈ l, RdC X x.2.2.2.2.1.1.1 (ints .i64 x.2.2.2.2.1.1.2.1) ∧ RdC X x.2.2.2.2.1.2.1.1 (ints .i64 x.2.2.2.2.1.2.1.2.1) := by
  intro x hx
  rw [t.eq]
  exact ⟨⟨(rd_pmS x l hx).1.left H⟩, ⟨(rd_pmS x l hx).2.left H⟩⟩
theorem rdc_orm {X H : HP} (l : List At) [t : Take (orm l) X H] : ∀ r ∈ l, RdC X r.1 (r.2.2.2.2.2.2.1.1.flatMap oc) := by
  intro x hx
  rw [t.eq]
  exact ⟨(rd_orm x l hx).left H⟩
end Go.Proofs.YtcelailgedndnaaGreatS
