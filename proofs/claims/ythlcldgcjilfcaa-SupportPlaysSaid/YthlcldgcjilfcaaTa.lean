/-
  A table of supports by its plain rows.
-/
import Derived.Test.YthlcldgcjilfcaaS6
namespace Go.Proofs
open Go Go.Wk

abbrev RowT := Int × Bool × List WD
def rowT0 : RowT := (0, false, [])
def absR (r : RowD) : RowT := (r.fact, r.free, r.ws.map datW)
def standsA (d : RowT) : Bool := d.2.1 || decide (0 < d.2.2.length)
def cutA (w : WD) (d : RowT) : RowT := (d.1, d.2.1, d.2.2.filter fun x => decide (x ≠ w))
def lostA (ds : List RowT) (w : WD) (f : Int) : Bool := ds.any fun d => (d.1 == f) && (decide (w ∈ d.2.2) && !standsA (cutA w d))
def sweepA (ds : List RowT) (cm : List WD) : List WD := cm.filter fun w => ds.any fun d => decide (w ∈ d.2.2)
/-- Rows in which row k is the fact's. -/
def OfA (ds : List RowT) (f : Int) (ds' : List RowT) (k : Nat) : Prop := (ds' = ds ∧ k < ds.length ∧ (ds.getD k rowT0).1 = f) ∨ ((∀ d ∈ ds, d.1 ≠ f) ∧ ds' = ds ++ [(f, false, [])] ∧ k = ds.length)
def freeA (ds : List RowT) (k : Nat) : List RowT := ds.set k ((ds.getD k rowT0).1, true, (ds.getD k rowT0).2.2)
def supA (ds : List RowT) (k : Nat) (w : WD) : List RowT := if w ∈ (ds.getD k rowT0).2.2 then ds else ds.set k ((ds.getD k rowT0).1, (ds.getD k rowT0).2.1, (ds.getD k rowT0).2.2 ++ [w])
def supC (ds : List RowT) (k : Nat) (cm : List WD) (w : WD) : List WD := if w ∈ (ds.getD k rowT0).2.2 then cm else if w ∈ cm then cm else cm ++ [w]

def TabA (h : PH) (t : Nat) (ds : List RowT) (cm : List WD) (n : Nat) : PH → PH → Prop := fun M0 M => ∃ rs came, TabL h t rs came n M0 M ∧ rs.map absR = ds ∧ came.map datW = cm
theorem TabA.mono {h h' : PH} (hl : PH.le h h') {t n : Nat} {ds : List RowT} {cm : List WD} {M0 M : PH} (A : TabA h t ds cm n M0 M) : TabA h' t ds cm n M0 M := by
  obtain ⟨rs, came, A, e1, e2⟩ := A
  exact ⟨rs, came, A.mono hl, e1, e2⟩
theorem lyTabA (h : PH) (t : Nat) (ds : List RowT) (cm : List WD) (n : Nat) : Ly (TabA h t ds cm n) := Ly.exists fun _ => Ly.exists fun _ => Ly.and (Ly.tabL _ _ _ _ _)
theorem TabA.ok {h : PH} {t n : Nat} {ds : List RowT} {cm : List WD} {M0 M : PH} (A : TabA h t ds cm n M0 M) : (ds.map (·.1)).Nodup ∧ ds.length ≤ n ∧ cm.length ≤ n := by
  obtain ⟨rs, came, ⟨_, _, _, _, _, ok⟩, rfl, rfl⟩ := A
  refine ⟨?_, by simpa using ok.len, by simpa using ok.lenc⟩
  rw [List.map_map]; exact ok.nodup
theorem idx_inj {l : List Int} (hn : l.Nodup) {i j : Nat} (hi : i < l.length) (hj : j < l.length) (e : l[i] = l[j]) : i = j := by
  rcases Nat.lt_trichotomy i j with q | q | q
  · exact absurd e (List.pairwise_iff_getElem.1 hn i j hi hj q)
  · exact q
  · exact absurd e.symm (List.pairwise_iff_getElem.1 hn j i hj hi q)
theorem abs_get {rs : List RowD} {k : Nat} (hk : k < rs.length) : (rs.map absR).getD k rowT0 = absR (rs.getD k rowD0) := getD_map absR rowD0 rowT0 hk
theorem fact_idx {rs : List RowD} (hn : (rs.map (·.fact)).Nodup) {i j : Nat} (hi : i < rs.length) (hj : j < rs.length) (e : (rs.getD i rowD0).fact = (rs.getD j rowD0).fact) : i = j := by
  refine idx_inj hn (by simpa using hi) (by simpa using hj) ?_
  simpa [List.getD, hi, hj] using e
theorem of_det {rs rs' : List RowD} {f : Int} {k k' : Nat} {ds' : List RowT} (hn : (rs.map (·.fact)).Nodup) (o : OfIs rs f rs' k') (a : OfA (rs.map absR) f ds' k) : ds' = rs'.map absR ∧ k' = k := by
  rcases o with ⟨rfl, h1, h2⟩ | ⟨hno, p, rfl, rfl⟩
  · rcases a with ⟨rfl, g1, g2⟩ | ⟨gno, _, _⟩
    · rw [List.length_map] at g1
      rw [abs_get g1] at g2
      exact ⟨rfl, fact_idx hn h1 g1 (h2.trans g2.symm)⟩
    · exact absurd h2 (gno _ (List.mem_map_of_mem (getD_mem (d := rowD0) h1)))
  · rcases a with ⟨rfl, g1, g2⟩ | ⟨_, rfl, rfl⟩
    · rw [List.length_map] at g1
      rw [abs_get g1] at g2
      exact absurd g2 (hno _ (getD_mem (d := rowD0) g1))
    · exact ⟨by simp [absR], by simp⟩
theorem used_abs (rs : List RowD) (y : WhyD) : usedR rs y = (rs.map absR).any fun d => decide (datW y ∈ d.2.2) := by
  unfold usedR
  rw [List.any_map]
  congr 1
  funext r
  rw [Bool.eq_iff_iff]
  simp only [Function.comp_apply, absR, List.any_eq_true, sameW_iff, decide_eq_true_eq, List.mem_map]
theorem sweep_abs (rs : List RowD) (came : List WhyD) : (sweepC rs came).map datW = sweepA (rs.map absR) (came.map datW) := by
  unfold sweepC sweepA
  rw [List.filter_map]
  congr 1
  exact List.filter_congr fun y _ => by rw [used_abs]; rfl
theorem cut_abs (y : WhyD) (r : RowD) : absR (cutR y r) = cutA (datW y) (absR r) := by
  unfold absR cutR cutA
  simp only [Prod.mk.injEq, true_and]
  rw [List.filter_map]
  congr 1
  refine List.filter_congr fun x _ => ?_
  simp only [Function.comp_apply, sameW]
  by_cases q : datW x = datW y <;> simp [q]
theorem stands_abs (r : RowD) : standsR r = standsA (absR r) := by unfold standsR standsA absR; simp
theorem any_same {ws : List WhyD} {y : WhyD} : (ws.any fun x => sameW x y) = decide (datW y ∈ ws.map datW) := by
  rw [Bool.eq_iff_iff]
  simp only [List.any_eq_true, sameW_iff, decide_eq_true_eq, List.mem_map]
theorem cut_less (y : WhyD) (r : RowD) : decide ((cutR y r).ws.length < r.ws.length) = decide (datW y ∈ r.ws.map datW) := by
  rw [decide_eq_decide]
  unfold cutR
  rw [List.length_filter_lt_length_iff_exists]
  simp only [List.mem_map, Bool.not_eq_true', sameW_ne, ne_eq, Decidable.not_not]
theorem lost_abs (rs : List RowD) (y : WhyD) (f : Int) : lostF rs y f = lostA (rs.map absR) (datW y) f := by
  unfold lostF lostA
  rw [List.any_map]
  congr 1
  funext r
  simp only [Function.comp_apply]
  rw [cut_less, stands_abs, cut_abs]
  rfl

section
variable {K : Key} {w : World} {h M0 M Mt : PH} {t n : Nat} {ds : List RowT} {cm : List WD}
theorem newA (G : Wld K w h M) : Calls Try.prog 6 #[] w (RetM K h fun h' M' v => ∃ t, v = .pointer (some ⟨t, 0, none⟩) ∧ TabA h' t [] [] 0 M M') :=
  (newT_spec G).mono (RetM.mono fun h' M' v hl ⟨t, hv, A⟩ => ⟨t, hv, [], [], A, rfl, rfl⟩)
theorem freeA_spec (G : Wld K w h M) (A : TabA h t ds cm n M0 M) (f : Int) (hf : -9223372036854775808 ≤ f ∧ f ≤ 9223372036854775807) (hb : n ≤ 1000) {ds' : List RowT} {k : Nat} (o : OfA ds f ds' k) :
    Calls Try.prog 14 #[.pointer (some ⟨t, 0, none⟩), .int .i64 f] w (RetM K h fun h' M' v => v = .tuple #[] ∧ TabA h' t (freeA ds' k) cm (n + 1) M0 M') := by
  obtain ⟨rs, came, A, rfl, rfl⟩ := A
  have hn : (rs.map (·.fact)).Nodup := by obtain ⟨_, _, _, _, _, ok⟩ := A; exact ok.nodup
  refine (free_spec G A f hf hb).mono (RetM.mono fun h' M' v hl ⟨hv, rs', k', oi, A'⟩ => ⟨hv, _, _, A', ?_, rfl⟩)
  obtain ⟨rfl, rfl⟩ := of_det hn oi o
  obtain ⟨hk, _⟩ := oi.lt
  unfold freeA
  rw [List.map_set, abs_get hk]; rfl
theorem supA_spec (G : Wld K w h M) (A : TabA h t ds cm n M0 M) (f : Int) (hf : -9223372036854775808 ≤ f ∧ f ≤ 9223372036854775807) (hb : n ≤ 1000) {y : WhyD} (gy : whyG h y) {ds' : List RowT} {k : Nat} (o : OfA ds f ds' k) :
    Calls Try.prog 7 #[.pointer (some ⟨t, 0, none⟩), .int .i64 f, .agg (whyE.enc y).toArray] w (RetM K h fun h' M' v => v = .tuple #[] ∧ TabA h' t (supA ds' k (datW y)) (supC ds' k cm (datW y)) (n + 1) M0 M') := by
  obtain ⟨rs, came, A, rfl, rfl⟩ := A
  have hn : (rs.map (·.fact)).Nodup := by obtain ⟨_, _, _, _, _, ok⟩ := A; exact ok.nodup
  refine (sup_spec G A f hf hb gy).mono (RetM.mono fun h' M' v hl ⟨hv, rs', k', rs2, came2, oi, A', hc⟩ => ⟨hv, rs2, came2, A', ?_⟩)
  obtain ⟨rfl, rfl⟩ := of_det hn oi o
  obtain ⟨hk, _⟩ := oi.lt
  unfold supA supC
  rw [abs_get hk]
  simp only [any_same, decide_eq_true_eq, decide_eq_false_iff_not] at hc
  rcases hc with ⟨h1, rfl, rfl⟩ | ⟨h1, a, c, y1, rfl, e1, h2⟩
  · rw [if_pos (by exact h1), if_pos (by exact h1)]; exact ⟨rfl, rfl⟩
  · rw [if_neg (by exact h1), if_neg (by exact h1)]
    refine ⟨by rw [List.map_set]; simp [absR, e1], ?_⟩
    rcases h2 with ⟨h2, rfl⟩ | ⟨h2, y2, rfl, e2⟩
    · rw [if_pos h2]
    · rw [if_neg h2]; simp [e2]
theorem forgetA_spec (G : Wld K w h M) (A : TabA h t ds cm n M0 M) (f : Int) (hb : n ≤ 1000) :
    Calls Try.prog 15 #[.pointer (some ⟨t, 0, none⟩), .int .i64 f] w (RetM K h fun h' M' v => v = .tuple #[] ∧ TabA h' t (ds.filter fun d => decide (d.1 ≠ f)) (sweepA (ds.filter fun d => decide (d.1 ≠ f)) cm) n M0 M') := by
  obtain ⟨rs, came, A, rfl, rfl⟩ := A
  refine (forget_spec G A f hb).mono (RetM.mono fun h' M' v hl ⟨hv, A'⟩ => ⟨hv, _, _, A', ?_, ?_⟩)
  · rw [List.filter_map]; rfl
  · rw [sweep_abs, List.filter_map]; rfl
theorem loseA_spec (G : Wld K w h M) (A : TabA h t ds cm n M0 M) (hb : n ≤ 1000) {y : WhyD} (gy : whyG h y) :
    Calls Try.prog 16 #[.pointer (some ⟨t, 0, none⟩), .agg (whyE.enc y).toArray] w (RetM K h fun h' M' v => ∃ a os, v = .slice a os.length os.length ∧ RS h' intE a os ∧ os = (sortInts (ds.map (·.1))).filter (lostA ds (datW y)) ∧
      TabA h' t (ds.map (cutA (datW y))) (sweepA (ds.map (cutA (datW y))) cm) n M0 M') := by
  obtain ⟨rs, came, A, rfl, rfl⟩ := A
  have e : (rs.map (cutR y)).map absR = (rs.map absR).map (cutA (datW y)) := by
    rw [List.map_map, List.map_map]; exact List.map_congr_left fun r _ => cut_abs y r
  refine (lose_spec G A hb gy).mono (RetM.mono fun h' M' v hl ⟨a, os, hv, hr, ho, A'⟩ => ⟨a, os, hv, hr, ?_, _, _, A', e, ?_⟩)
  · rw [ho, List.map_map]
    exact List.filter_congr fun f _ => lost_abs rs y f
  · rw [sweep_abs, e]
theorem whyA_spec (G : Wld K w h M) (A : TabA h t ds cm n M0 Mt) (hM : PH.le Mt M) (hb : n ≤ 1000) {k : Nat} (hk : k < ds.length) {f : Int} (hf : (ds.getD k rowT0).1 = f) :
    Calls Try.prog 9 #[.pointer (some ⟨t, 0, none⟩), .int .i64 f] w (Ret K h M fun h' v => ∃ a fs, v = .tuple #[.slice a fs.length fs.length, .bool (ds.getD k rowT0).2.1] ∧ RS h' whyE a fs ∧ (∀ f ∈ fs, whyG h' f) ∧ fs.map datW = (ds.getD k rowT0).2.2) := by
  obtain ⟨rs, came, ⟨ca, cc, M1, H, O, ok⟩, rfl, rfl⟩ := A
  rw [List.length_map] at hk
  rw [abs_get hk] at hf ⊢
  exact why_yes G H (O.le.trans hM) ok.nodup ok.rows (fun r hr => Nat.le_trans (ok.lens r hr) hb) hk hf
theorem standsA_spec (G : Wld K w h M) (A : TabA h t ds cm n M0 Mt) (hM : PH.le Mt M) {k : Nat} (hk : k < ds.length) {f : Int} (hf : (ds.getD k rowT0).1 = f) :
    Calls Try.prog 12 #[.pointer (some ⟨t, 0, none⟩), .int .i64 f] w (Ret K h M fun _ v => v = .bool (standsA (ds.getD k rowT0))) := by
  obtain ⟨rs, came, ⟨ca, cc, M1, H, O, ok⟩, rfl, rfl⟩ := A
  rw [List.length_map] at hk
  rw [abs_get hk] at hf ⊢
  rw [← stands_abs]
  exact stands_yes G H (O.le.trans hM) ok.nodup hk hf
theorem standsN_spec (G : Wld K w h M) (A : TabA h t ds cm n M0 Mt) (hM : PH.le Mt M) {f : Int} (hf : ∀ d ∈ ds, d.1 ≠ f) :
    Calls Try.prog 12 #[.pointer (some ⟨t, 0, none⟩), .int .i64 f] w (Ret K h M fun _ v => v = .bool false) := by
  obtain ⟨rs, came, ⟨ca, cc, M1, H, O, ok⟩, rfl, rfl⟩ := A
  exact stands_no G H (O.le.trans hM) (fun r hr => hf _ (List.mem_map_of_mem (f := absR) hr))
theorem whyN_spec (G : Wld K w h M) (A : TabA h t ds cm n M0 Mt) (hM : PH.le Mt M) {f : Int} (hf : ∀ d ∈ ds, d.1 ≠ f) :
    Calls Try.prog 9 #[.pointer (some ⟨t, 0, none⟩), .int .i64 f] w (Ret K h M fun _ v => v = .tuple #[.slice none 0 0, .bool false]) := by
  obtain ⟨rs, came, ⟨ca, cc, M1, H, O, ok⟩, rfl, rfl⟩ := A
  exact why_no G H (O.le.trans hM) (fun r hr => hf _ (List.mem_map_of_mem (f := absR) hr))
theorem allA_spec (G : Wld K w h M) (A : TabA h t ds cm n M0 Mt) (hM : PH.le Mt M) (hb : n ≤ 1000) :
    Calls Try.prog 11 #[.pointer (some ⟨t, 0, none⟩)] w (Ret K h M fun h' v => ∃ a fs, v = .slice a fs.length fs.length ∧ RS h' whyE a fs ∧ (∀ f ∈ fs, whyG h' f) ∧ fs.map datW = cm) := by
  obtain ⟨rs, came, A, rfl, rfl⟩ := A
  exact all_spec G A hM hb
theorem lenA_spec (G : Wld K w h M) (A : TabA h t ds cm n M0 Mt) (hM : PH.le Mt M) (hb : n ≤ 1000) :
    Calls Try.prog 20 #[.pointer (some ⟨t, 0, none⟩)] w (Ret K h M fun _ v => v = .int .i64 ((ds.filter standsA).length : Nat)) := by
  obtain ⟨rs, came, ⟨ca, cc, M1, H, O, ok⟩, rfl, rfl⟩ := A
  have e : ((rs.map absR).filter standsA).length = (rs.filter standsR).length := by
    rw [List.filter_map, List.length_map]
    congr 1
    exact List.filter_congr fun r _ => (stands_abs r).symm
  rw [e]
  exact len_spec G H (O.le.trans hM) ok.nodup (Nat.le_trans ok.len hb)
end
end Go.Proofs
