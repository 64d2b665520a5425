/-
  The rows of a table as the law turns them: plain facts.
-/
import Derived.Test.YthlcldgcjilfcaaW5
namespace Go.Proofs
open Go Go.Wk

def DsOk (ds : List RowT) (cm : List WD) : Prop := CmOk ds cm ∧ ∀ d ∈ ds, d.2.2.Nodup
theorem DsOk.nil : DsOk [] [] := ⟨⟨List.nodup_nil, by simp⟩, by simp⟩
theorem OfA.lt {ds ds' : List RowT} {f : Int} {k : Nat} (o : OfA ds f ds' k) : k < ds'.length ∧ (ds'.getD k rowT0).1 = f := by
  rcases o with ⟨rfl, h1, h2⟩ | ⟨_, rfl, rfl⟩
  · exact ⟨h1, h2⟩
  · simp
theorem DsOk.of {ds ds' : List RowT} {cm : List WD} {f : Int} {k : Nat} (h : DsOk ds cm) (o : OfA ds f ds' k) : DsOk ds' cm := by
  rcases o with ⟨rfl, _, _⟩ | ⟨_, rfl, _⟩
  · exact h
  · refine ⟨⟨h.1.1, fun w => ?_⟩, fun d hd => ?_⟩
    · rw [h.1.2]
      constructor
      · rintro ⟨d, hd, hw⟩; exact ⟨d, List.mem_append_left _ hd, hw⟩
      · rintro ⟨d, hd, hw⟩
        rcases List.mem_append.1 hd with hd | hd
        · exact ⟨d, hd, hw⟩
        · simp only [List.mem_cons, List.not_mem_nil, or_false] at hd; subst hd; simp at hw
    · rcases List.mem_append.1 hd with hd | hd
      · exact h.2 d hd
      · simp only [List.mem_cons, List.not_mem_nil, or_false] at hd; subst hd; simp
theorem mem_setT {ds : List RowT} {k : Nat} (hk : k < ds.length) {x d : RowT} : d ∈ ds.set k x → d = x ∨ ∃ j, ∃ hj : j < ds.length, j ≠ k ∧ d = ds[j] := by
  intro h
  obtain ⟨j, hj, rfl⟩ := List.getElem_of_mem h
  rw [List.length_set] at hj
  rw [List.getElem_set]
  split
  · exact .inl rfl
  · rename_i hne; exact .inr ⟨j, hj, fun e => hne e.symm, rfl⟩
theorem get_rowT {ds : List RowT} {k : Nat} (hk : k < ds.length) : ds.getD k rowT0 = ds[k] := by simp [List.getD, hk]
theorem self_set {ds : List RowT} {k : Nat} (hk : k < ds.length) (x : RowT) : x ∈ ds.set k x := List.mem_iff_getElem.2 ⟨k, by simpa using hk, by simp⟩
theorem other_set {ds : List RowT} {k j : Nat} (hj : j < ds.length) (hne : j ≠ k) (x : RowT) : ds[j] ∈ ds.set k x :=
  List.mem_iff_getElem.2 ⟨j, by simpa using hj, by rw [List.getElem_set, if_neg (fun e => hne e.symm)]⟩
/-- One row turned: what is in it afterwards. -/
theorem any_set {ds : List RowT} {k : Nat} (hk : k < ds.length) (x : RowT) (w : WD) : (∃ d ∈ ds.set k x, w ∈ d.2.2) ↔ w ∈ x.2.2 ∨ ∃ j, ∃ hj : j < ds.length, j ≠ k ∧ w ∈ ds[j].2.2 := by
  constructor
  · rintro ⟨d, hd, hw⟩
    rcases mem_setT hk hd with rfl | ⟨j, hj, hne, rfl⟩
    · exact .inl hw
    · exact .inr ⟨j, hj, hne, hw⟩
  · rintro (hw | ⟨j, hj, hne, hw⟩)
    · exact ⟨x, self_set hk x, hw⟩
    · exact ⟨_, other_set hj hne x, hw⟩
theorem any_at {ds : List RowT} {k : Nat} (hk : k < ds.length) (w : WD) : (∃ d ∈ ds, w ∈ d.2.2) ↔ w ∈ (ds.getD k rowT0).2.2 ∨ ∃ j, ∃ hj : j < ds.length, j ≠ k ∧ w ∈ ds[j].2.2 := by
  rw [get_rowT hk]
  constructor
  · rintro ⟨d, hd, hw⟩
    obtain ⟨j, hj, rfl⟩ := List.getElem_of_mem hd
    by_cases e : j = k
    · subst e; exact .inl hw
    · exact .inr ⟨j, hj, e, hw⟩
  · rintro (hw | ⟨j, hj, _, hw⟩)
    · exact ⟨_, List.getElem_mem hk, hw⟩
    · exact ⟨_, List.getElem_mem hj, hw⟩
theorem DsOk.free {ds : List RowT} {cm : List WD} {k : Nat} (h : DsOk ds cm) (hk : k < ds.length) : DsOk (freeA ds k) cm := by
  refine ⟨⟨h.1.1, fun w => ?_⟩, fun d hd => ?_⟩
  · unfold freeA
    rw [h.1.2, any_set hk, any_at hk]
  · rcases mem_setT hk hd with rfl | ⟨j, hj, _, rfl⟩
    · have q := h.2 _ (getD_mem (d := rowT0) hk); exact q
    · exact h.2 _ (List.getElem_mem hj)
theorem DsOk.sup {ds : List RowT} {cm : List WD} {k : Nat} (h : DsOk ds cm) (hk : k < ds.length) (w : WD) : DsOk (supA ds k w) (supC ds k cm w) := by
  unfold supA supC
  by_cases hw : w ∈ (ds.getD k rowT0).2.2
  · rw [if_pos hw, if_pos hw]; exact h
  · rw [if_neg hw, if_neg hw]
    have hold := h.2 _ (getD_mem (d := rowT0) hk)
    refine ⟨⟨?_, fun v => ?_⟩, fun d hd => ?_⟩
    · split
      · exact h.1.1
      · rename_i hc
        rw [List.nodup_append]
        refine ⟨h.1.1, by simp, fun a ha b hb => ?_⟩
        simp only [List.mem_cons, List.not_mem_nil, or_false] at hb
        subst hb; exact fun e => hc (e ▸ ha)
    · rw [any_set hk]
      have h1 := (h.1.2 v).trans (any_at hk v)
      simp only [List.mem_append, List.mem_cons, List.not_mem_nil, or_false]
      split
      · rename_i hc
        rw [h1]
        constructor
        · rintro (q | q)
          · exact .inl (.inl q)
          · exact .inr q
        · rintro ((q | q) | q)
          · exact .inl q
          · subst q; exact h1.1 hc
          · exact .inr q
      · rw [List.mem_append, h1]
        simp only [List.mem_cons, List.not_mem_nil, or_false]
        constructor
        · rintro ((q | q) | q)
          · exact .inl (.inl q)
          · exact .inr q
          · exact .inl (.inr q)
        · rintro ((q | q) | q)
          · exact .inl (.inl q)
          · exact .inr q
          · exact .inl (.inr q)
    · rcases mem_setT hk hd with rfl | ⟨j, hj, _, rfl⟩
      · rw [List.nodup_append]
        refine ⟨hold, by simp, fun a ha b hb => ?_⟩
        simp only [List.mem_cons, List.not_mem_nil, or_false] at hb
        subst hb; exact fun e => hw (e ▸ ha)
      · exact h.2 _ (List.getElem_mem hj)
theorem CmOk.sweep {ds ds2 : List RowT} {cm : List WD} (h : CmOk ds cm) (hs : ∀ d ∈ ds2, ∃ d' ∈ ds, ∀ w ∈ d.2.2, w ∈ d'.2.2) : CmOk ds2 (sweepA ds2 cm) := by
  refine ⟨h.1.filter _, fun w => ?_⟩
  unfold sweepA
  rw [List.mem_filter, List.any_eq_true]
  simp only [decide_eq_true_eq]
  constructor
  · rintro ⟨_, d, hd, hw⟩; exact ⟨d, hd, hw⟩
  · rintro ⟨d, hd, hw⟩
    obtain ⟨d', hd', hw'⟩ := hs d hd
    exact ⟨(h.2 w).2 ⟨d', hd', hw' w hw⟩, d, hd, hw⟩
theorem DsOk.forget {ds : List RowT} {cm : List WD} (h : DsOk ds cm) (p : RowT → Bool) : DsOk (ds.filter p) (sweepA (ds.filter p) cm) :=
  ⟨h.1.sweep fun d hd => ⟨d, (List.mem_filter.1 hd).1, fun _ hw => hw⟩, fun d hd => h.2 d (List.mem_filter.1 hd).1⟩
theorem DsOk.lose {ds : List RowT} {cm : List WD} (h : DsOk ds cm) (w : WD) : DsOk (ds.map (cutA w)) (sweepA (ds.map (cutA w)) cm) := by
  refine ⟨h.1.sweep fun d hd => ?_, fun d hd => ?_⟩ <;> obtain ⟨d', hd', rfl⟩ := List.mem_map.1 hd
  · exact ⟨d', hd', fun v hv => (List.mem_filter.1 hv).1⟩
  · exact (h.2 d' hd').filter _
theorem filter_at {A : Type} (p : A → Bool) {l : List A} {k : Nat} (hk : k < l.length) (h1 : p l[k] = false) (h2 : ∀ j, (hj : j < l.length) → j ≠ k → p l[j] = true) : l.filter p = l.take k ++ l.drop (k + 1) := by
  have e : l = l.take k ++ l[k] :: l.drop (k + 1) := by simp
  conv => lhs; rw [e]
  rw [List.filter_append, List.filter_cons_of_neg (by rw [h1]; simp)]
  congr 1
  · refine List.filter_eq_self.2 fun x hx => ?_
    obtain ⟨j, hj, rfl⟩ := List.getElem_of_mem hx
    rw [List.length_take] at hj
    rw [List.getElem_take]
    exact h2 j (by omega) (by omega)
  · refine List.filter_eq_self.2 fun x hx => ?_
    obtain ⟨j, hj, rfl⟩ := List.getElem_of_mem hx
    rw [List.length_drop] at hj
    rw [List.getElem_drop]
    exact h2 _ (by omega) (by omega)
theorem forget_eq {ds : List RowT} {f : Int} {k : Nat} (hn : (ds.map (·.1)).Nodup) (hk : k < ds.length) (hf : (ds.getD k rowT0).1 = f) : (ds.filter fun d => decide (d.1 ≠ f)) = ds.take k ++ ds.drop (k + 1) := by
  rw [get_rowT hk] at hf
  refine filter_at _ hk (by simp [hf]) fun j hj hne => ?_
  simp only [decide_eq_true_eq]
  intro e
  exact hne (idx_inj hn (by simpa using hj) (by simpa using hk) (by simpa using e.trans hf.symm))
theorem forget_no {ds : List RowT} {f : Int} (h : ∀ d ∈ ds, d.1 ≠ f) : (ds.filter fun d => decide (d.1 ≠ f)) = ds := List.filter_eq_self.2 fun d hd => decide_eq_true (h d hd)
/-- The support is a row's, and the row stands no more without it. -/
def lostd (w : WD) (d : RowT) : Bool := decide (w ∈ d.2.2) && !standsA (cutA w d)
theorem factT_inj {ds : List RowT} (hn : (ds.map (·.1)).Nodup) {a b : RowT} (ha : a ∈ ds) (hb : b ∈ ds) (e : a.1 = b.1) : a = b := by
  obtain ⟨i, hi, rfl⟩ := List.getElem_of_mem ha
  obtain ⟨j, hj, rfl⟩ := List.getElem_of_mem hb
  have := idx_inj hn (i := i) (j := j) (by simpa using hi) (by simpa using hj) (by simpa using e)
  subst this; rfl
theorem lost_sort {ds : List RowT} (hn : (ds.map (·.1)).Nodup) (w : WD) : (sortInts (ds.map (·.1))).filter (lostA ds w) = sortInts ((ds.filter (lostd w)).map (·.1)) := by
  have hp : ((sortInts (ds.map (·.1))).filter (lostA ds w)).Perm ((ds.filter (lostd w)).map (·.1)) := by
    refine ((sort_perm _).filter _).trans (List.Perm.of_eq ?_)
    rw [List.filter_map]
    congr 1
    refine List.filter_congr fun d hd => ?_
    simp only [Function.comp_apply]
    unfold lostA
    rw [Bool.eq_iff_iff]
    constructor
    · intro h
      obtain ⟨d', hd', h2⟩ := List.any_eq_true.1 h
      rw [Bool.and_eq_true, beq_iff_eq] at h2
      have := factT_inj hn hd' hd h2.1
      subst this; exact h2.2
    · intro h
      exact List.any_eq_true.2 ⟨d, hd, by rw [Bool.and_eq_true]; exact ⟨beq_self_eq_true _, h⟩⟩
  exact rise_fin hp ((sortInts_up _).filter _)
theorem cut_out {w : WD} {d : RowT} (h : w ∉ d.2.2) : cutA w d = d := by
  have e : d.2.2.filter (fun x => decide (x ≠ w)) = d.2.2 := List.filter_eq_self.2 fun x hx => decide_eq_true fun q => h (q ▸ hx)
  unfold cutA; rw [e]
theorem cut_in {l : List WhyD} {y : WhyD} {k : Nat} (hn : (l.map datW).Nodup) (hk : k < l.length) (e : sameW (l.getD k whyE.dflt) y = true) : (l.map datW).filter (fun x => decide (x ≠ datW y)) = (([] ++ l.take k) ++ l.drop (k + 1)).map datW := by
  have e1 : l.getD k whyE.dflt = l[k] := by simp [List.getD, hk]
  rw [e1, sameW_iff] at e
  have h1 : k < (l.map datW).length := by simpa using hk
  rw [filter_at _ h1 (by simp [e]) fun j hj hne => ?_]
  · simp [List.map_take, List.map_drop]
  · simp only [decide_eq_true_eq]
    intro e2
    rw [← e] at e2
    refine hne ?_
    have hp := hn
    unfold List.Nodup at hp
    have e3 : (l.map datW)[j] = (l.map datW)[k] := by rw [e2]; simp
    rcases Nat.lt_trichotomy j k with q | q | q
    · exact absurd e3 (List.pairwise_iff_getElem.1 hp j k hj h1 q)
    · exact q
    · exact absurd e3.symm (List.pairwise_iff_getElem.1 hp k j h1 hj q)
theorem TabA.up {h : PH} {t n n' : Nat} {ds : List RowT} {cm : List WD} {M0 M : PH} (hn : n ≤ n') (A : TabA h t ds cm n M0 M) : TabA h t ds cm n' M0 M := by
  obtain ⟨rs, came, ⟨ca, cc, M1, H, O, ok⟩, e1, e2⟩ := A
  exact ⟨rs, came, ⟨ca, cc, M1, H, O, { ok with len := Nat.le_trans ok.len hn, lens := fun r hr => Nat.le_trans (ok.lens r hr) hn, lenc := Nat.le_trans ok.lenc hn }⟩, e1, e2⟩

/-! ### the law's row, turned as the table -/
theorem map_setS {row : List StandD} {k : Nat} (s : StandD) : (row.set k s).map absS = (row.map absS).set k (absS s) := List.map_set
theorem free_row {row : List StandD} {k : Nat} (hk : k < row.length) {s : StandD} (e : absS s = ((row.getD k standE.dflt).fact, true, (row.getD k standE.dflt).ws.map datW)) : (row.set k s).map absS = freeA (row.map absS) k := by
  unfold freeA; rw [map_setS, e, abs_getS hk]; rfl
theorem sup_in {row : List StandD} {k : Nat} (hk : k < row.length) {w : WD} (hw : w ∈ (row.getD k standE.dflt).ws.map datW) : row.map absS = supA (row.map absS) k w := by
  unfold supA; rw [abs_getS hk, if_pos (by exact hw)]
theorem sup_out {row : List StandD} {k : Nat} (hk : k < row.length) {y : WhyD} {s : StandD} (hw : datW y ∉ (row.getD k standE.dflt).ws.map datW)
    (e : absS s = ((row.getD k standE.dflt).fact, (row.getD k standE.dflt).free, (row.getD k standE.dflt).ws.map datW ++ [datW y])) : (row.set k s).map absS = supA (row.map absS) k (datW y) := by
  unfold supA; rw [map_setS, e, abs_getS hk, if_neg (by exact hw)]; rfl
theorem of_row {row : List StandD} {f : Int} {k : Nat} (hk : k < row.length) (hf : (row.getD k standE.dflt).fact = f) : OfA (row.map absS) f (row.map absS) k :=
  .inl ⟨rfl, by simpa using hk, by rw [abs_getS hk]; exact hf⟩
theorem of_new {row rowx : List StandD} {f : Int} (h : ∀ s ∈ row, s.fact ≠ f) (e : rowx.map absS = row.map absS ++ [(f, false, [])]) : OfA (row.map absS) f (rowx.map absS) row.length := by
  refine .inr ⟨fun d hd => ?_, e, by simp⟩
  obtain ⟨s, hs, rfl⟩ := List.mem_map.1 hd
  exact h s hs
/-- What 'Lose' has turned of the first j rows. -/
def CutJ (ds : List RowT) (w : WD) (j : Nat) : List RowT := (ds.take j).map (cutA w) ++ ds.drop j
theorem cutJ_zero (ds : List RowT) (w : WD) : ds = CutJ ds w 0 := by simp [CutJ]
theorem cutJ_end {ds : List RowT} {w : WD} : CutJ ds w ds.length = ds.map (cutA w) := by simp [CutJ]
theorem cutJ_len {ds : List RowT} {w : WD} {j : Nat} : (CutJ ds w j).length = ds.length := by unfold CutJ; simp; omega
theorem cutJ_at {ds : List RowT} {w : WD} {j : Nat} (hj : j < ds.length) : (CutJ ds w j).getD j rowT0 = ds.getD j rowT0 := by
  unfold CutJ
  have hl : ((ds.take j).map (cutA w)).length = j := by simp; omega
  rw [List.getD_eq_getElem?_getD, List.getElem?_append_right (by omega), hl, Nat.sub_self, List.getElem?_drop, ← List.getD_eq_getElem?_getD]; rfl
theorem cutJ_succ {ds : List RowT} {w : WD} {j : Nat} (hj : j < ds.length) : CutJ ds w (j + 1) = (CutJ ds w j).set j (cutA w (ds.getD j rowT0)) := by
  unfold CutJ
  have hl : ((ds.take j).map (cutA w)).length = j := by simp; omega
  rw [List.take_succ_eq_append_getElem hj, List.map_append, List.drop_eq_getElem_cons hj, get_rowT hj]
  rw [List.set_append_right _ _ (by omega), hl, Nat.sub_self]
  simp only [List.map_cons, List.map_nil, List.append_assoc, List.singleton_append, List.set_cons_zero]
theorem cutJ_skip {ds : List RowT} {w : WD} {j : Nat} (hj : j < ds.length) (h : w ∉ (ds.getD j rowT0).2.2) : CutJ ds w (j + 1) = CutJ ds w j := by
  rw [cutJ_succ hj, cut_out h, ← cutJ_at (w := w) hj]
  have hj2 : j < (CutJ ds w j).length := by rw [cutJ_len]; exact hj
  rw [get_rowT hj2]; simp
theorem gone_succ {ds : List RowT} {w : WD} {j : Nat} (hj : j < ds.length) (h : lostd w (ds.getD j rowT0) = true) : ((ds.take j).filter (lostd w)).map (·.1) ++ [(ds.getD j rowT0).1] = ((ds.take (j + 1)).filter (lostd w)).map (·.1) := by
  rw [List.take_succ_eq_append_getElem hj, List.filter_append, ← get_rowT hj, List.filter_cons_of_pos h]; simp
theorem gone_skip {ds : List RowT} {w : WD} {j : Nat} (hj : j < ds.length) (h : lostd w (ds.getD j rowT0) = false) : ((ds.take j).filter (lostd w)).map (·.1) = ((ds.take (j + 1)).filter (lostd w)).map (·.1) := by
  rw [List.take_succ_eq_append_getElem hj, List.filter_append, ← get_rowT hj, List.filter_cons_of_neg (by rw [h]; simp)]; simp
end Go.Proofs
