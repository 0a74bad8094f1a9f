/- Contracts of the functions that the statement reaches: the walk of the program by the small logic, part 1: T6. No condition beyond what each theorem states. -/
import Derived.Test.YtcelailgedndnaaGreatZ8
namespace Go.Proofs.YtcelailgedndnaaGreatS
open Go.RowKit
set_option linter.unusedVariables false
set_option linter.unusedSimpArgs false
theorem poll_m (s : Cs) (t f m : Int) : (cellI s t = none ∧ doS (4, t, f, m, p0, z0) s = (s, 2, [], [])) ∨ (∃ c, cellI s t = some c ∧ doS (4, t, f, m, p0, z0) s = (s, (rowsAt f m c).2, (rowsAt f m c).1, [])) := by
  have hd : doS (4, t, f, m, p0, z0) s = (match cellI s t with
      | none => (s, 2, [], [])
      | some c => (s, (rowsAt f m c).2, (rowsAt f m c).1, [])) := by
    unfold doS
    rw [if_neg (show ¬ ((4 : Int) = 1) by decide), if_neg (show ¬ ((4 : Int) = 3) by decide), if_neg (show ¬ ((4 : Int) = 5) by decide), if_neg (show ¬ ((4 : Int) ≠ 2 ∧ (4 : Int) ≠ 4) by decide)]
    show (match cellI s t with | none => _ | some c => _) = _
    cases cellI s t <;> rfl
  rw [hd]
  cases hc : cellI s t with
  | none => exact .inl ⟨rfl, rfl⟩
  | some c => exact .inr ⟨c, rfl, rfl⟩
theorem CsOk.cellI_ok {s : Cs} {n : Nat} (h : CsOk s n) {t : Int} {c : Cd} (hc : cellI s t = some c) : CdOk c n := by
  unfold cellI at hc
  split at hc
  · exact (h.cell _ _ hc).1
  · cases hc
theorem CdOk.rl {c : Cd} {n : Nat} (h : CdOk c n) : c.rows.length ≤ 8 * n := by
  have := h.pan
  have := h.ins
  omega
theorem CsOk.rl {s : Cs} {n : Nat} (h : CsOk s n) (t : Int) : (rowsOf s t).length ≤ 8 * n := by
  unfold rowsOf
  cases hc : cellI s t with
  | none => exact Nat.zero_le _
  | some c => exact (h.cellI_ok hc).rl
section
variable {P : Program} {n : Nat} {ops : Array Oper} {rest : List Oper} {e : Env} {H A : HP} {Φ : Post} {d : Nat} {ty : TypeId} {ps : String} {af : Array Edge}
variable {K : Env → HP → Prop} {fuel : Nat} {listed : Array Bool} {α : Type} {cells : α → List Value} {sz : Nat} {x y q : Operand} {a : Option Addr} {cap st el bt s u : Nat} {z : List Value} {xs : List α} {k2 k3 : IntKind}
theorem run_subT (hc0 : ∀ x, (cells x).length = sz) [f : Slc P st el sz bt z] (hx : ev e x = .slice a xs.length cap) {i j : Int} (hy : ev e y = .int k2 i) (hi : i = (s : Int)) (hq : ev e q = .int k3 j) (hj : j = (u : Int)) (h1 : s ≤ u) (h2 : u ≤ xs.length) (hc : xs.length ≤ cap) :
    ∃ a', (∀ H' [RdC H' a (xs.flatMap cells)], RdC H' a' (((xs.drop s).take (u - s)).flatMap cells)) ∧ ∀ w, (execOp (ev e) ⟨some d, .slice st x (some y) (some q) none, ty, ps, af, none⟩).run P w = .ok (.value (.slice a' ((xs.drop s).take (u - s)).length (cap - s))) w := by
  subst hi; subst hj
  refine ⟨if cap = s then a else a.map (·.add (s * sz)), fun H' hr => ?_, fun w => ?_⟩
  rotate_left
  · rw [run_slice (lo := some y) (hi := some q) (l := s) (h := u) (f := f) hx ⟨_, _, hq, by omega, by omega, by omega⟩ ⟨_, _, hy, by omega, by omega, by omega⟩ w, List.length_take, List.length_drop, Nat.min_eq_left (by omega)]
  · have := read_slice (a := a) (cap := cap) (sz := sz) (l := s) (h := u) (cs := xs.flatMap cells) (by omega) H'
    rw [flat_drop hc0, flat_take hc0] at this; exact this
/-- A piece between two bounds, where a guard lets it. -/
theorem os_subG (i : Nat) {l : List Oper} {g t : Nat} {bw : Bool} [f : Slc P st el sz bt z] (hi : l.toArray[i]? = some ⟨some d, .slice st x (some y) (some q) none, ty, ps, af, some (g, bw)⟩) (hns : Region.noSelect l.toArray = true) (hfree : Region.free .any l.toArray listed i = true) (hready : (Region.ready .any l.toArray listed).contains i = true)
    (s u : Nat) (hc0 : ∀ x, (cells x).length = sz) (hd : d < n) (hg : (l[g]?).bind (·.dst) = some t) (hn : t < n) (hb : e t = .bool bw) (hx : ev e x = .slice a xs.length cap) {p j : Int} (hy : ev e y = .int k2 p) (hp : p = (s : Int)) (hq : ev e q = .int k3 j) (hj : j = (u : Int)) (h1 : s ≤ u) (h2 : u ≤ xs.length) (hc : xs.length ≤ cap)
    (c : ∀ a', (∀ H' [RdC H' a (xs.flatMap cells)], RdC H' a' (((xs.drop s).take (u - s)).flatMap cells)) → OS P n l.toArray A fuel (listed.setIfInBounds i true) (put e d (.slice a' ((xs.drop s).take (u - s)).length (cap - s))) H K) : OS P n l.toArray A (fuel + 1) listed e H K := by
  obtain ⟨a', hr, h⟩ := run_subT (P := P) (f := f) (d := d) (ty := ty) (ps := ps) (af := af) hc0 hx hy hp hq hj h1 h2 hc
  exact os_pre i hi hns hfree hready rfl hd (g_yes hg hn hb (o_rfl hd h (ops_nil ⟨rfl, rfl, Ent.refl _⟩))) (c a' hr)
end
set_option linter.unusedVariables false
set_option linter.unusedSimpArgs false
attribute [local irreducible] Ops Ex Spec T V QO OA Rn OS
set_option maxRecDepth 100000 in
set_option maxHeartbeats 8000000 in
theorem topOnce (z : Su) (a1 : Option Addr) (l : List R.Kn) (c1 : Nat) (tn fr nn : Int) (hz : z.2.2.2.2.1.length ≤ maxLen) :
    Spec Tryz.prog 7 [.agg (suc z).toArray, .slice a1 l.length c1, .int .i64 tn, .int .i64 fr, .int .i64 nn] (suH z * (rs a1 (l.flatMap R.kac) * pmS l)) (X := Unit) (fun _ => .bool true) (fun _ => True) (fun _ => 1) := by
  obtain ⟨bu, ro, qu, sa, sl, sc0⟩ := z
  have hz : sl.length ≤ maxLen := hz
  show Spec Tryz.prog 7 [.agg (List.toArray [.int .i64 bu, .int .i64 ro, .int .i64 qu, .slice sa sl.length sc0]), .slice a1 l.length c1, .int .i64 tn, .int .i64 fr, .int .i64 nn] (rs sa (sl.flatMap R.kc) * (rs a1 (l.flatMap R.kac) * pmS l)) (X := Unit) (fun _ => .bool true) (fun _ => True) (fun _ => 1)
  have hset := fun (H' : HP) (h : RdC H' sa (sl.flatMap R.kc)) => setupK H' sa sl sc0 bu ro qu (hr := h) hz
  have ok0 := newCs_ok (wn bu 1 4) (wn ro 1 8) (wn qu 0 30) (kS sl) (Nat.le_trans (kS_len sl) (by decide))
  have hq0 : (newCs (wn bu 1 4) (wn ro 1 8) (wn qu 0 30) (kS sl)).qu ≤ 4000 := by
    have b3 := wn_bd qu 0 30 (by omega)
    show wn qu 0 30 ≤ 4000
    omega
  have hnew := fun (sb : Option Addr) (sd : Nat) (H' : HP) (h : RdC H' sb ((kS sl).flatMap sc)) => coNew H' sb (kS sl) sd (wn bu 1 4) (wn ro 1 8) (wn qu 0 30) (hr := h) (Nat.le_trans (kS_len sl) (by decide)) (kS_right bu ro qu sl)
  generalize newCs (wn bu 1 4) (wn ro 1 8) (wn qu 0 30) (kS sl) = s0 at *
  have hacts := fun (X' H' : HP) (h1 : Take (pmS l) X' H') (h2 : RdC X' a1 (l.flatMap R.kac)) => actsK X' a1 c1 l (ha := h2) (rdc_pmS l)
  have bT := wn_bd tn 0 3 (by decide)
  have bM := wn_bd nn 0 40 (by decide)
  refine spec_of Tryz.func7 rfl Tryz.ntmps7 rfl ?_
  repeat' (first | (refine rG 0 [1, 2, 3, 4, 5] ?_; ((try ((refine o_box (by decide) (v := .agg (List.toArray _)) rfl rfl (fun b5 => ?_)))) <;> (try (refine wK ?_; intro _)))) | (refine rG 1 [1, 2, 3, 4, 11] ?_; ((try refine wO ?_) <;> (try ((refine o_callH (hset _ inferInstance) (by first | exact True.intro | (show _ < _; decide)) rfl rfl (fun y _ => ?_); obtain ⟨sb, sd⟩ := y))) <;> (try ((refine o_alloc_a (by decide) (fun b11 => ?_)))) <;> (try (refine wK ?_; intro _)))) | (refine rG 2 [1, 3, 4, 11, 12] ?_; ((try refine wO ?_) <;> (try (refine o_call (within _ _ _ (by decide) (by decide) (by decide) (by decide)) (by first | exact True.intro | (show _ < _; decide)) rfl rfl (fun _ _ => ?_))) <;> (try (refine wK ?_; intro _)))) | (refine rG 3 [1, 3, 4, 12, 13] ?_; ((try refine wO ?_) <;> (try ((refine o_callH (hnew _ _ _ inferInstance) (by first | exact True.intro | (show _ < _; decide)) rfl rfl (fun b _ => ?_)))) <;> (try (refine wK ?_; intro _)))) | (refine rG 4 [1, 3, 4, 12, 13, 26] ?_; ((try (refine wK ?_; intro _)))) | refine wC ?_ | (refine ex_split rfl ?_ ?_ <;> intro hc))
  generalize wn tn 0 3 = T at *
  have hdo := fun (ra : Option Addr) (rc : Nat) (A : List At) (hA : A.length ≤ 40) (ho : ∀ r ∈ A, actok r) (X' H' R' : HP) (h1 : Take (CO b s0) X' H') (h2 : RdC H' ra (A.flatMap ae)) (h3 : Take (orm A) H' R') => coDoN b s0 ra A rc (t := h1) (hr := h2) (rdc_orm A) (fun r hr => Nat.le_trans (ho r hr).2.2 (by decide)) ok0 hq0 (by omega)
  repeat' (first | (refine rG 6 [3, 4, 12, 13] ?_; ((try refine wO ?_) <;> (try ((refine o_callH (hacts _ _ inferInstance inferInstance) (by first | exact True.intro | (show _ < _; decide)) rfl rfl (fun y hy => ?_); obtain ⟨ra, rc, A⟩ := y; obtain ⟨hA, hrc, ho⟩ := hy))) <;> (try ((refine o_callH (hdo ra rc A hA ho _ _ _ inferInstance inferInstance inferInstance) (by first | exact True.intro | (show _ < _; decide)) rfl rfl (fun y hy => ?_); obtain ⟨qa, qc, B⟩ := y))) <;> (try (refine wK ?_; intro _)))) | refine wC ?_ | (refine ex_split rfl ?_ ?_ <;> intro hc))
  have hA : A.length ≤ 40 := hA
  have ok1 : CsOk (doL (A.map (·.2.2)) s0).1 200 := ((doL_ok ok0 hq0 (A.map (·.2.2)) (by rw [List.length_map]; omega)).1).mono (by rw [List.length_map]; omega)
  generalize (doL (A.map (·.2.2)) s0).1 = s1 at *
  have htw := fun (X' H' : HP) (h : Take (CO b s1) X' H') => coTwin b s1 (t := h) ok1 (by decide)
  have hR := ok1.rl T
  have hrow := fun (X' H' : HP) (h : Take (CO b s1) X' H') => topRows b s1 T (t := h) ok1 (by decide) (by omega)
  repeat' (first | (refine rG 7 [3, 4, 12, 13, 14] ?_; ((try refine wO ?_) <;> (try ((refine o_callH (htw _ _ inferInstance) (by first | exact True.intro | (show _ < _; decide)) rfl rfl (fun b2 _ => ?_)))) <;> (try (refine wK ?_; intro _)))) | (refine rG 8 [3, 4, 12, 13, 14, 34] ?_; ((try (refine wK ?_; intro _)))) | (refine rG 10 [3, 4, 12, 13, 14, 15] ?_; ((try refine wO ?_) <;> (try ((refine o_callH (hrow _ _ inferInstance) (by first | exact True.intro | (show _ < _; decide)) rfl rfl (fun y hyL => ?_); obtain ⟨la, lc_⟩ := y))) <;> (try (refine wK ?_; intro _)))) | refine wC ?_ | (refine ex_split rfl ?_ ?_ <;> intro hc))
  have hLd : ∀ c, cellI s1 T = some c → c.rows = rowsOf s1 T := fun c hc => by unfold rowsOf; rw [hc]
  generalize rowsOf s1 T = L at *
  have bF := wn_bd fr 0 (L.length : Int) (by omega)
  repeat' (first | (refine rG 11 [4, 12, 13, 14, 15, 16] ?_; ((try refine wO ?_) <;> (try (refine o_call (within _ _ _ (by omega) (by omega) (by omega) (by omega)) (by first | exact True.intro | (show _ < _; decide)) rfl rfl (fun _ _ => ?_))) <;> (try (refine wK ?_; intro _)))) | (refine rG 12 [12, 13, 14, 15, 16, 17] ?_; ((try refine wO ?_) <;> (try (refine o_call (within _ _ _ (by omega) (by omega) (by omega) (by omega)) (by first | exact True.intro | (show _ < _; decide)) rfl rfl (fun _ _ => ?_))) <;> (try (refine wK ?_; intro _)))) | refine wC ?_ | (refine ex_split rfl ?_ ?_ <;> intro hc))
  generalize wn fr 0 (L.length : Int) = F at *
  generalize wn nn 0 40 = M at *
  obtain ⟨f, rfl⟩ : ∃ f : Nat, F = (f : Int) := ⟨F.toNat, by omega⟩
  have halike := fun (X' H' : HP) (h : Take (CO b2 s1 * CO b s1) X' H') => topAlike b2 b s1 s1 (t := h) ok1 ok1 (by decide) (Sim.refl s1)
  have hdo1 := fun (aa : Option Addr) (X' H' : HP) (h1 : Take (CO b s1) X' H') (h2 : RdC H' aa (acc none 0 (4, T, (f : Int), M, p0, z0))) => coDo1 b s1 aa none 0 (4, T, (f : Int), M, p0, z0) 1 (t := h1) (hr := h2) (hro := rdc_nil _) (Nat.zero_le _) ok1 (by decide)
  rcases poll_m s1 T (f : Int) M with ⟨hc, hans⟩ | ⟨c, hc, hans⟩
  · rw [hans] at hdo1
    have hcn := fun (X' H' : HP) (h : Take (CO b s1) X' H') => coCellN b s1 T (t := h) hc
    repeat' (first | (refine ex_regk (id := 13) (ts := [12, 13, 14, 15, 16, 17, 18]) ?_; ((try (first | refine o_mv (v := .pointer _) (by decide) rfl ?_ | refine o_mv (by decide) rfl ?_)) <;> (try (first | refine o_mv (v := .int _ _) (by decide) rfl ?_ | refine o_mv (by decide) rfl ?_)) <;> (try (first | refine o_mv (v := .int _ _) (by decide) rfl ?_ | refine o_mv (by decide) rfl ?_)) <;> (try (first | refine o_mv (v := .int _ _) (by decide) rfl ?_ | refine o_mv (by decide) rfl ?_)) <;> (try (refine o_build (cells := acc none 0 (4, T, (f : Int), M, p0, z0)) (by decide) rfl ?_)) <;> (try ((refine o_buildSlice (by decide) rfl rfl rfl (fun _ => ?_)))) <;> (try ((refine o_callH (hdo1 _ _ _ inferInstance inferInstance) (by first | exact True.intro | (show _ < _; decide)) rfl rfl (fun y hy => ?_); obtain ⟨ya, yc, ⟨⟨oa, oc_⟩, pa, pc_⟩⟩ := y))) <;> (try (first | refine o_as (v := .slice _ _ _) (by decide) rfl ?_ | refine o_as (by decide) rfl ?_)) <;> (try (refine ops_nilk ?_; intro _)) <;> (try ((first | refine keep_cons (v := .int _ _) rfl ?_ | refine keep_cons (v := _) rfl ?_) <;> (first | refine keep_cons (v := .pointer _) rfl ?_ | refine keep_cons (v := _) rfl ?_) <;> (first | refine keep_cons (v := .pointer _) rfl ?_ | refine keep_cons (v := _) rfl ?_) <;> (first | refine keep_cons (v := .slice _ _ _) rfl ?_ | refine keep_cons (v := _) rfl ?_) <;> (first | refine keep_cons (v := .int _ _) rfl ?_ | refine keep_cons (v := _) rfl ?_) <;> (first | refine keep_cons (v := .int _ _) rfl ?_ | refine keep_cons (v := _) rfl ?_) <;> (first | refine keep_cons (v := .slice _ _ _) rfl ?_ | refine keep_cons (v := _) rfl ?_))) <;> (try refine keep_nil ?_))) | refine wC ?_ | (refine ex_split rfl ?_ ?_ <;> intro hc))
    refine Ex.rd_some (a := ya) (l := anc ((oa, oc_), (pa, pc_)) (2, [], [])) (Nat.succ_pos _) (fun yd ha => ?_)
    subst ha
    have hv0 : (anc ((oa, oc_), (pa, pc_)) (2, [], []))[(0 : Int).toNat * 3 + 0]? = some (.int .i64 2) := rfl
    repeat' (first | (refine rG 14 [12, 13, 15, 16, 17, 18, 59] ?_; ((try refine wO ?_) <;> (repeat' (refine g_split rfl (by decide) rfl (by decide) ?_ ?_ <;> intro hc <;> (try refine wO ?_))) <;> (try ((refine o_callH (halike _ _ inferInstance) (by first | exact True.intro | (show _ < _; decide)) rfl rfl (fun _ _ => ?_)))) <;> (try refine wO ?_) <;> (repeat' (refine g_split rfl (by decide) rfl (by decide) ?_ ?_ <;> intro hc <;> (try refine wO ?_))) <;> (try (refine wK ?_; intro _)))) | (refine rG 16 [15, 16, 17, 18, 63] ?_; ((try refine wO ?_) <;> (try ((refine o_callH (hcn _ _ inferInstance) (by first | exact True.intro | (show _ < _; decide)) rfl rfl (fun _ _ => ?_)))) <;> (try (refine wK ?_; intro _)))) | (refine rG 17 [10] ?_; ((try refine wO ?_) <;> (repeat' (refine g_split rfl (by decide) rfl (by decide) ?_ ?_ <;> intro hc <;> (try refine wO ?_))) <;> (try ((refine o_call awakeK (by first | exact True.intro | (show _ < _; decide)) rfl rfl (fun _ _ => ?_)))) <;> (try (refine wK ?_; intro _)))) | refine wC ?_ | (refine ex_split rfl ?_ ?_ <;> intro hc))
    exact fin (.inr rfl) () (resl1 rfl (rv_tmp rfl)) trivial (Ent.toOne _)
  · have hcl := hLd c hc
    rw [rowsAt_ok (show ¬ ((f : Int) < 0 ∨ (f : Int) > (c.rows.length : Int)) by rw [hcl]; omega), hcl, Int.toNat_natCast] at hans
    rw [hans] at hdo1
    have hcs := fun (X' H' : HP) (h : Take (CO b s1) X' H') => coCellS b s1 T (t := h) ok1 (by decide) hc
    have hk := Bd.tk_le M (L.length - f)
    have hkv : f + Bd.tk M (L.length - f) - f = Bd.tk M (L.length - f) := by omega
    have htk : (Bd.tk M (L.length - f) : Int) = (if (L.length : Int) - (f : Int) < (if (32 : Int) < M then 32 else M) then (L.length : Int) - (f : Int) else (if (32 : Int) < M then 32 else M)) := by
      unfold Bd.tk
      split <;> split <;> (try split) <;> omega
    have hout : ((L.drop f).take (Bd.tk M (L.length - f))).length ≤ 32 := by rw [List.length_take]; omega
    have hu : ∀ x : Int, x = (if (L.length : Int) < IntKind.i64.wrap ((f : Int) + (if (32 : Int) < M then 32 else M)) then (L.length : Int) else IntKind.i64.wrap ((f : Int) + (if (32 : Int) < M then 32 else M))) → x = ((f + Bd.tk M (L.length - f) : Nat) : Int) := by
      intro x hx
      rw [hx, IntKind.wrap_i64, Int.natCast_add, htk]
      split <;> (try split) <;> (try split) <;> omega
      all_goals omega
    generalize Bd.tk M (L.length - f) = KK at *
    generalize hO : (L.drop f).take KK = out at *
    repeat' (first | (refine ex_regk (id := 13) (ts := [12, 13, 14, 15, 16, 17, 18]) ?_; ((try (first | refine o_mv (v := .pointer _) (by decide) rfl ?_ | refine o_mv (by decide) rfl ?_)) <;> (try (first | refine o_mv (v := .int _ _) (by decide) rfl ?_ | refine o_mv (by decide) rfl ?_)) <;> (try (first | refine o_mv (v := .int _ _) (by decide) rfl ?_ | refine o_mv (by decide) rfl ?_)) <;> (try (first | refine o_mv (v := .int _ _) (by decide) rfl ?_ | refine o_mv (by decide) rfl ?_)) <;> (try (refine o_build (cells := acc none 0 (4, T, (f : Int), M, p0, z0)) (by decide) rfl ?_)) <;> (try ((refine o_buildSlice (by decide) rfl rfl rfl (fun _ => ?_)))) <;> (try ((refine o_callH (hdo1 _ _ _ inferInstance inferInstance) (by first | exact True.intro | (show _ < _; decide)) rfl rfl (fun y hy => ?_); obtain ⟨ya, yc, ⟨⟨oa, oc_⟩, pa, pc_⟩⟩ := y))) <;> (try (first | refine o_as (v := .slice _ _ _) (by decide) rfl ?_ | refine o_as (by decide) rfl ?_)) <;> (try (refine ops_nilk ?_; intro _)) <;> (try ((first | refine keep_cons (v := .int _ _) rfl ?_ | refine keep_cons (v := _) rfl ?_) <;> (first | refine keep_cons (v := .pointer _) rfl ?_ | refine keep_cons (v := _) rfl ?_) <;> (first | refine keep_cons (v := .pointer _) rfl ?_ | refine keep_cons (v := _) rfl ?_) <;> (first | refine keep_cons (v := .slice _ _ _) rfl ?_ | refine keep_cons (v := _) rfl ?_) <;> (first | refine keep_cons (v := .int _ _) rfl ?_ | refine keep_cons (v := _) rfl ?_) <;> (first | refine keep_cons (v := .int _ _) rfl ?_ | refine keep_cons (v := _) rfl ?_) <;> (first | refine keep_cons (v := .slice _ _ _) rfl ?_ | refine keep_cons (v := _) rfl ?_))) <;> (try refine keep_nil ?_))) | refine wC ?_ | (refine ex_split rfl ?_ ?_ <;> intro hc))
    refine Ex.rd_some (a := ya) (l := anc ((oa, oc_), (pa, pc_)) (0, out, [])) (Nat.succ_pos _) (fun yd ha => ?_)
    subst ha
    have hv0 : (anc ((oa, oc_), (pa, pc_)) (0, out, []))[(0 : Int).toNat * 3 + 0]? = some (.int .i64 0) := rfl
    have hv1 : (anc ((oa, oc_), (pa, pc_)) (0, out, []))[(0 : Int).toNat * 3 + 1]? = some (.slice oa out.length oc_) := rfl
    repeat' (first | (refine rG 14 [12, 13, 15, 16, 17, 18, 59] ?_; ((try refine wO ?_) <;> (repeat' (refine g_split rfl (by decide) rfl (by decide) ?_ ?_ <;> intro hc <;> (try refine wO ?_))) <;> (try ((refine o_callH (halike _ _ inferInstance) (by first | exact True.intro | (show _ < _; decide)) rfl rfl (fun _ _ => ?_)))) <;> (try refine wO ?_) <;> (repeat' (refine g_split rfl (by decide) rfl (by decide) ?_ ?_ <;> intro hc <;> (try refine wO ?_))) <;> (try (refine wK ?_; intro _)))) | (refine rG 16 [15, 16, 17, 18, 63] ?_; ((try refine wO ?_) <;> (try ((refine o_callH (hcs _ _ inferInstance) (by first | exact True.intro | (show _ < _; decide)) rfl rfl (fun yc _ => ?_)))) <;> (try (refine wK ?_; intro _)))) | refine wC ?_ | (refine ex_split rfl ?_ ?_ <;> intro hc))
    refine Ex.ent ?_ (ent_anm (y := ((oa, oc_), (pa, pc_))) (e := 0) (rows := out) (rels := []))
    have hsame := fun (H' : HP) (a' : Option Addr) (ca cb : Nat) (h1 : RdC H' oa (out.flatMap rwc)) (h2 : RdC H' a' (out.flatMap rwc)) => sameRT H' oa a' out ca cb (ha := h1) (hb := h2) (by omega)
    repeat' (first | (refine rA 18 [10] 26 ?_; (refine os_all ?_); ((refine lQ 0 ?_; ((refine lQ 1 ?_; ((refine lQ 2 ?_; ((refine lQ 3 ?_; ((refine lQ 4 ?_; ((refine lQ 5 ?_; ((refine lQ 6 ?_; ((refine lQ 7 ?_; ((refine lQ 8 ?_; ((refine lQ 9 ?_; ((refine lQ 10 ?_; ((refine lQ 11 ?_; ((refine lQ 12 ?_; ((refine lQ 13 ?_; ((refine lQ 14 ?_; ((refine lQ 15 ?_; ((refine lQ 16 ?_; ((refine lQ 17 ?_; ((refine lQ 18 ?_; (((refine os_subG 19 rfl (by kernel_rfl) (by kernel_rfl) (by kernel_rfl) f (f + KK) (cells := rwc) (xs := L) rwc_len (by decide) rfl (by decide) rfl rfl rfl rfl rfl (hu _ rfl) (by omega) (by omega) hyL ?_; intro a91 h91; rw [hkv, hO] at h91 ⊢); ((refine lC (v := ?_) 20 ?_ ?_; rotate_left; (focus (((refine wO ?_) <;> (try ((refine o_callH (hsame _ a91 _ _ inferInstance (h91 _)) (by first | exact True.intro | (show _ < _; decide)) rfl rfl (fun _ _ => ?_))))) <;> exact lL)); ((refine lQ 21 ?_; ((refine lQ 22 ?_; ((refine lC (v := ?_) 23 ?_ ?_; rotate_left; (focus (((refine wO ?_) <;> (try ((refine o_call awakeK (by first | exact True.intro | (show _ < _; decide)) rfl rfl (fun _ _ => ?_))))) <;> exact lL)); ((refine lQ 24 ?_; ((refine lQ 25 ?_; ((refine dK ?_; intro _))))))))))))))))))))))))))))))))))))))))))))))))))))))) | refine wC ?_ | (refine ex_split rfl ?_ ?_ <;> intro hc))
    all_goals exact fin (.inr rfl) () (resl1 rfl (rv_tmp rfl)) trivial (Ent.toOne _)
end Go.Proofs.YtcelailgedndnaaGreatS
