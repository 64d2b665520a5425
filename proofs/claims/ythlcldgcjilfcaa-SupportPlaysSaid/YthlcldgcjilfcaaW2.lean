import Derived.Test.YthlcldgcjilfcaaW1
namespace Go.Proofs
open Go Go.Wk
def standsS (s : StandD) : Bool := s.free || decide (0 < s.ws.length)
theorem stands_absS (s : StandD) : standsA (absS s) = standsS s := by unfold standsA standsS absS; simp
theorem idx_ge {l : List WhyD} {y : WhyD} (h : datW y ∈ l.map datW) : 0 ≤ idxF (fun x => sameW x y) l := by
  have := idxF_any (fun x => sameW x y) l
  rw [any_same, decide_eq_decide] at this
  exact this.1 h
theorem idx_no {l : List WhyD} {y : WhyD} (h : datW y ∉ l.map datW) : ¬ 0 ≤ idxF (fun x => sameW x y) l := by
  have := idxF_any (fun x => sameW x y) l
  rw [any_same, decide_eq_decide] at this
  exact fun q => h (this.2 q)
theorem TabA.lens {h : PH} {t n : Nat} {ds : List RowT} {cm : List WD} {M0 M : PH} (A : TabA h t ds cm n M0 M) : ∀ d ∈ ds, d.2.2.length ≤ n := by
  obtain ⟨rs, came, ⟨_, _, _, _, _, ok⟩, rfl, rfl⟩ := A
  intro d hd
  obtain ⟨r, hr, rfl⟩ := List.mem_map.1 hd
  simpa [absR] using ok.lens r hr
section
variable {K : Key} {w : World} {h M0 M Mt : PH} {t n : Nat} {ds : List RowT} {cm : List WD}
theorem whyS_spec (G : Wld K w h M) (A : TabA h t ds cm n M0 Mt) (hM : PH.le Mt M) (hb : n ≤ 1000) {k : Nat} (hk : k < ds.length) {s : StandD} (hs : ds.getD k rowT0 = absS s) :
    Calls Try.prog 9 #[.pointer (some ⟨t, 0, none⟩), .int .i64 s.fact] w (Ret K h M fun h' v => ∃ a fs, v = .tuple #[.slice a fs.length fs.length, .bool s.free] ∧ RS h' whyE a fs ∧ (∀ f ∈ fs, whyG h' f) ∧ fs.map datW = s.ws.map datW) := by
  have := whyA_spec G A hM hb hk (f := s.fact) (by rw [hs]; rfl)
  rw [hs] at this; exact this
theorem standsS_spec (G : Wld K w h M) (A : TabA h t ds cm n M0 Mt) (hM : PH.le Mt M) {k : Nat} (hk : k < ds.length) {s : StandD} (hs : ds.getD k rowT0 = absS s) :
    Calls Try.prog 12 #[.pointer (some ⟨t, 0, none⟩), .int .i64 s.fact] w (Ret K h M fun _ v => v = .bool (standsS s)) := by
  have := standsA_spec G A hM hk (f := s.fact) (by rw [hs]; rfl)
  rw [hs, stands_absS] at this; exact this
end
/-- What all that came is, by the rows. -/
def CmOk (ds : List RowT) (cm : List WD) : Prop := cm.Nodup ∧ ∀ w, w ∈ cm ↔ ∃ d ∈ ds, w ∈ d.2.2
theorem abs_getS {row : List StandD} {k : Nat} (hk : k < row.length) : (row.map absS).getD k rowT0 = absS (row.getD k standE.dflt) := getD_map absS standE.dflt rowT0 hk
theorem flat_succ {row : List StandD} {k : Nat} (hk : k < row.length) : (row.take k).flatMap (·.ws) ++ (row.getD k standE.dflt).ws = (row.take (k + 1)).flatMap (·.ws) := by
  have e : row.getD k standE.dflt = row[k] := by simp [List.getD, hk]
  rw [List.take_succ_eq_append_getElem hk, List.flatMap_append, e]; simp
theorem stf_succ {row : List StandD} {k : Nat} (hk : k < row.length) (h : standsS (row.getD k standE.dflt) = true) : ((row.take (k + 1)).filter standsS).length = ((row.take k).filter standsS).length + 1 := by
  have e : row.getD k standE.dflt = row[k] := by simp [List.getD, hk]
  rw [List.take_succ_eq_append_getElem hk, List.filter_append, ← e, List.filter_cons_of_pos h]; simp
theorem stf_skip {row : List StandD} {k : Nat} (hk : k < row.length) (h : standsS (row.getD k standE.dflt) = false) : ((row.take (k + 1)).filter standsS).length = ((row.take k).filter standsS).length := by
  have e : row.getD k standE.dflt = row[k] := by simp [List.getD, hk]
  rw [List.take_succ_eq_append_getElem hk, List.filter_append, ← e, List.filter_cons_of_neg (by rw [h]; simp)]; simp
theorem take_not {l : List WD} (hn : l.Nodup) {k : Nat} (hk : k < l.length) : l[k] ∉ l.take k := by
  intro hm
  obtain ⟨j, hj, e⟩ := List.getElem_of_mem hm
  rw [List.getElem_take] at e
  rw [List.length_take] at hj
  exact List.pairwise_iff_getElem.1 hn j k (by omega) hk (by omega) e
theorem dat_get {l : List WhyD} {k : Nat} (hk : k < l.length) : datW (l.getD k whyE.dflt) ∈ l.map datW := List.mem_map_of_mem (getD_mem hk)
theorem dat_take {l : List WhyD} {k : Nat} (hn : (l.map datW).Nodup) (hk : k < l.length) : datW (l.getD k whyE.dflt) ∉ (l.take k).map datW := by
  have e : l.getD k whyE.dflt = l[k] := by simp [List.getD, hk]
  rw [List.map_take, e]
  have := take_not hn (k := k) (by simpa using hk)
  simpa using this

theorem mem_flat {row : List StandD} {ds : List RowT} (hd : row.map absS = ds) (v : WD) : v ∈ (row.flatMap (·.ws)).map datW ↔ ∃ d ∈ ds, v ∈ d.2.2 := by
  subst hd
  constructor
  · intro hv
    obtain ⟨y, hy, rfl⟩ := List.mem_map.1 hv
    obtain ⟨s, hs, hy2⟩ := List.mem_flatMap.1 hy
    exact ⟨absS s, List.mem_map_of_mem hs, List.mem_map_of_mem hy2⟩
  · rintro ⟨d, hd, hv⟩
    obtain ⟨s, hs, rfl⟩ := List.mem_map.1 hd
    obtain ⟨y, hy, rfl⟩ := List.mem_map.1 hv
    exact List.mem_map_of_mem (List.mem_flatMap.2 ⟨s, hs, hy⟩)

theorem tell_spec {K : Key} {w : World} {h M : PH} (G : Wld K w h M) {t n : Nat} {ds : List RowT} {cm : List WD} {M0 Mt N0 Nt : PH} (A : TabA h t ds cm n M0 Mt) (hM : PH.le Mt M) (hb : n ≤ 1000) {a : Option Addr} {c : Nat} {row : List StandD} (O : Own 43 standE N0 Nt a c row) (hN : PH.le Nt M) (Gr : ∀ s ∈ row, standG h s) (hd : row.map absS = ds) (hcm : CmOk ds cm) :
    Calls Try.prog 19 #[.pointer (some ⟨t, 0, none⟩), .slice a row.length c] w (Ret K h M fun _ v => v = .bool true) := by
  have hok := A.ok
  have hdl : row.length = ds.length := by rw [← hd, List.length_map]
  have hln := A.lens
  refine enter (l := [(.pointer (some ⟨t, 0, none⟩)), (.slice a row.length c)]) Try.func19 rfl Try.ntmps19 (Nat.le_of_ble_eq_true rfl) ?_
  simp only [params]
  refine CW.seq ?_
  refine CW.region ?_
  refine WL.q (.bool false) (by kernel_rfl) rfl (by kernel_rfl) (by kernel_rfl) ?_
  refine WL.nil ?_
  refine EX.then_code ?_
  refine CW.seq ?_
  refine CW.region ?_
  refine WL.q (.int .i64 0) (by kernel_rfl) rfl (by kernel_rfl) (by kernel_rfl) ?_
  refine WL.nil ?_
  refine EX.then_code ?_
  refine CW.seq ?_
  refine CW.region ?_
  refine WL.q (.slice none 0 0) (by kernel_rfl) rfl (by kernel_rfl) (by kernel_rfl) ?_
  refine WL.nil ?_
  refine EX.then_code ?_
  refine CW.seq ?_
  refine CW.seq ?_
  refine CW.region ?_
  refine WL.q (.int .i64 0) (by kernel_rfl) rfl (by kernel_rfl) (by kernel_rfl) ?_
  refine WL.nil ?_
  refine EX.then_code ?_
  refine CW.block ?_
  refine CW.loop (β := Nat × Nat × List WhyD × Option Addr × Nat) (fun x_ => [(0, (.pointer (some ⟨t, 0, none⟩))), (1, (.slice a row.length c)), (5, (.int .i64 (x_.2.1 : Int))), (6, (.slice x_.2.2.2.1 x_.2.2.1.length x_.2.2.2.2)), (7, (.int .i64 (x_.1 : Int)))]) (fun x_ w_ => ∃ h_ M0_, (PH.le h h_) ∧ (Wld K w_ h_ M0_) ∧ (Own 28 whyE M M0_ x_.2.2.2.1 x_.2.2.2.2 x_.2.2.1) ∧ (∀ e_ ∈ x_.2.2.1, whyG h_ e_) ∧ (x_.1 ≤ row.length) ∧ (x_.2.1 = ((row.take x_.1).filter standsS).length) ∧ (x_.2.1 ≤ x_.1) ∧ (x_.2.2.1 = (row.take x_.1).flatMap (·.ws)) ∧ (x_.2.2.1.length ≤ x_.1 * 1000)) (fun x_ => row.length - x_.1) ⟨0, 0, [], none, 0⟩ ⟨(by kernel_rfl), (by kernel_rfl), (lk_int (x := 0) (by kernel_rfl) (by first | omega | (dsimp only; omega) | rfl | (dsimp only; rfl))), (by kernel_rfl), (lk_int (x := 0) (by kernel_rfl) (by first | omega | (dsimp only; omega) | rfl | (dsimp only; rfl))), trivial⟩ ⟨h, M, (PH.le_refl _), G, (Own.nil 28 whyE M), all_nil, (by first | omega | assumption | (dsimp only [List.length_nil, List.length_append, List.length_cons]; omega)), rfl, (by first | omega | assumption | (dsimp only [List.length_nil, List.length_append, List.length_cons]; omega)), rfl, (by first | omega | assumption | (dsimp only [List.length_nil, List.length_append, List.length_cons]; omega))⟩ ?_
  rintro ⟨k, c0, fs, ao, co⟩ w1 ⟨h1, M0_1, l1, G1, o_all1, g_all1, hk, hc0, hcl, hfs, hfl0⟩
  try dsimp only at *
  refine CW.seq ?_
  refine CW.seq ?_
  refine CW.region ?_
  refine WL.q (.int .i64 (k : Int)) (by kernel_rfl) rfl (by kernel_rfl) (by kernel_rfl) ?_
  refine WL.q (.slice a row.length c) (by kernel_rfl) rfl (by kernel_rfl) (by kernel_rfl) ?_
  refine WL.q (.int .i64 (row.length : Int)) (by kernel_rfl) rfl (by kernel_rfl) (by kernel_rfl) ?_
  refine WL.q (.bool (decide ((k : Int) < (row.length : Int)))) (by kernel_rfl) rfl (by kernel_rfl) (by kernel_rfl) ?_
  refine WL.nil ?_
  refine EX.then_code ?_
  refine CW.cond (decide ((k : Int) < (row.length : Int))) (by kernel_rfl) (by kernel_rfl) (fun c2 => ?_) (fun c2 => ?_)
  ·
    skip
    have d3 := of_decide_eq_true c2
    refine CW.skip ?_
    refine EX.then_code ?_
    refine CW.seq ?_
    refine CW.block ?_
    refine CW.seq ?_
    refine CW.region ?_
    rcases (⟨(show (row.getD k standE.dflt).ws.length ≤ 1000 from by have q_ := hln _ (by rw [← hd]; exact List.mem_map_of_mem (getD_mem (d := standE.dflt) (show k < row.length by omega))); simp only [absS, List.length_map] at q_; omega), trivial⟩ : (row.getD k standE.dflt).ws.length ≤ 1000 ∧ True) with ⟨hsl, _⟩
    ·
      skip
      refine WL.q (.pointer (some ⟨t, 0, none⟩)) (by kernel_rfl) rfl (by kernel_rfl) (by kernel_rfl) ?_
      refine WL.q (.slice a row.length c) (by kernel_rfl) rfl (by kernel_rfl) (by kernel_rfl) ?_
      refine WL.q (.int .i64 (k : Int)) (by kernel_rfl) rfl (by kernel_rfl) (by kernel_rfl) ?_
      refine WL.q (eptr a (k * standE.sz)) (by kernel_rfl) rfl (by kernel_rfl) (q_indexAddr (i := k) (E := standE) (xs := row) (e := 43) (c := c) (k := .i64) (m := row.length) rfl rfl (by kernel_rfl) (by kernel_rfl) (by kernel_rfl) (O.reads.mono ((hN.trans o_all1.le).trans G1.own)) (by omega)) ?_
      refine WL.q (eptr a (k * standE.sz + 0)) (by kernel_rfl) rfl (by kernel_rfl) (q_fieldAddr_e (i := k) (k := k * standE.sz) (off := 0) rfl (by kernel_rfl) (by kernel_rfl) (O.reads.mono ((hN.trans o_all1.le).trans G1.own)) (by omega)) ?_
      refine WL.q (.int .i64 (((row.getD k standE.dflt)).fact)) (by kernel_rfl) rfl (by kernel_rfl) (q_load_e (i := k) (k := 0) (E := standE) rfl (by kernel_rfl) (by kernel_rfl) (O.reads.mono ((hN.trans o_all1.le).trans G1.own)) (by omega) (by decide) (by kernel_rfl)) ?_
      refine WL.call (by kernel_rfl) rfl (by kernel_rfl) (by kernel_rfl) (whyS_spec G1 (A.mono l1) (hM.trans o_all1.le) hb (k := k) (by omega) (s := (row.getD k standE.dflt)) (by rw [← hd]; exact abs_getS (by omega))) (Ret.elim ?_)
      rintro w4 h4 _ l4 G4 ⟨a4, fs4, rfl, r4, g4, q4⟩
      refine WL.q (.tuple #[(.slice a4 fs4.length fs4.length), (.bool (((row.getD k standE.dflt)).free))]) (by kernel_rfl) rfl (by kernel_rfl) (by kernel_rfl) ?_
      refine WL.q (.slice a4 fs4.length fs4.length) (by kernel_rfl) rfl (by kernel_rfl) (by kernel_rfl) ?_
      refine WL.q (.bool (((row.getD k standE.dflt)).free)) (by kernel_rfl) rfl (by kernel_rfl) (by kernel_rfl) ?_
      refine WL.q (.slice a4 fs4.length fs4.length) (by kernel_rfl) rfl (by kernel_rfl) (by kernel_rfl) ?_
      refine WL.q (.bool (((row.getD k standE.dflt)).free)) (by kernel_rfl) rfl (by kernel_rfl) (by kernel_rfl) ?_
      refine WL.nil ?_
      refine EX.then_code ?_
      refine CW.seq ?_
      refine CW.region ?_
      refine WL.q (.slice a row.length c) (by kernel_rfl) rfl (by kernel_rfl) (by kernel_rfl) ?_
      refine WL.q (.int .i64 (k : Int)) (by kernel_rfl) rfl (by kernel_rfl) (by kernel_rfl) ?_
      refine WL.q (eptr a (k * standE.sz)) (by kernel_rfl) rfl (by kernel_rfl) (q_indexAddr (i := k) (E := standE) (xs := row) (e := 43) (c := c) (k := .i64) (m := row.length) rfl rfl (by kernel_rfl) (by kernel_rfl) (by kernel_rfl) (O.reads.mono ((hN.trans o_all1.le).trans G4.own)) (by omega)) ?_
      refine WL.q (eptr a (k * standE.sz + 1)) (by kernel_rfl) rfl (by kernel_rfl) (q_fieldAddr_e (i := k) (k := k * standE.sz) (off := 1) rfl (by kernel_rfl) (by kernel_rfl) (O.reads.mono ((hN.trans o_all1.le).trans G4.own)) (by omega)) ?_
      refine WL.q (.bool (((row.getD k standE.dflt)).free)) (by kernel_rfl) rfl (by kernel_rfl) (q_load_e (i := k) (k := 1) (E := standE) rfl (by kernel_rfl) (by kernel_rfl) (O.reads.mono ((hN.trans o_all1.le).trans G4.own)) (by omega) (by decide) (by kernel_rfl)) ?_
      refine WL.q (.bool (((row.getD k standE.dflt)).free)) (by kernel_rfl) rfl (by kernel_rfl) (by kernel_rfl) ?_
      rcases bool_cases (((row.getD k standE.dflt)).free) with c5 | c5
      ·
        skip
        refine WL.know 35 (.bool true) (x := .bool (((row.getD k standE.dflt)).free)) (by kernel_rfl) (congrArg Value.bool c5) ?_
        refine WL.skip (by kernel_rfl) rfl (by kernel_rfl) ?_
        refine WL.skip (by kernel_rfl) rfl (by kernel_rfl) ?_
        refine WL.skip (by kernel_rfl) rfl (by kernel_rfl) ?_
        refine WL.skip (by kernel_rfl) rfl (by kernel_rfl) ?_
        refine WL.skip (by kernel_rfl) rfl (by kernel_rfl) ?_
        refine WL.skip (by kernel_rfl) rfl (by kernel_rfl) ?_
        refine WL.skip (by kernel_rfl) rfl (by kernel_rfl) ?_
        refine WL.q (.bool true) (by kernel_rfl) rfl (by kernel_rfl) (by kernel_rfl) ?_
        refine WL.q (.bool true) (by kernel_rfl) rfl (by kernel_rfl) (by kernel_rfl) ?_
        refine WL.nil ?_
        refine EX.then_code ?_
        refine CW.seq ?_
        refine CW.seq ?_
        refine CW.region ?_
        refine WL.q (.bool (((row.getD k standE.dflt)).free)) (by kernel_rfl) rfl (by kernel_rfl) (by kernel_rfl) ?_
        refine WL.q (.slice a row.length c) (by kernel_rfl) rfl (by kernel_rfl) (by kernel_rfl) ?_
        refine WL.q (.int .i64 (k : Int)) (by kernel_rfl) rfl (by kernel_rfl) (by kernel_rfl) ?_
        refine WL.q (eptr a (k * standE.sz)) (by kernel_rfl) rfl (by kernel_rfl) (q_indexAddr (i := k) (E := standE) (xs := row) (e := 43) (c := c) (k := .i64) (m := row.length) rfl rfl (by kernel_rfl) (by kernel_rfl) (by kernel_rfl) (O.reads.mono ((hN.trans o_all1.le).trans G4.own)) (by omega)) ?_
        refine WL.q (eptr a (k * standE.sz + 1)) (by kernel_rfl) rfl (by kernel_rfl) (q_fieldAddr_e (i := k) (k := k * standE.sz) (off := 1) rfl (by kernel_rfl) (by kernel_rfl) (O.reads.mono ((hN.trans o_all1.le).trans G4.own)) (by omega)) ?_
        refine WL.q (.bool (((row.getD k standE.dflt)).free)) (by kernel_rfl) rfl (by kernel_rfl) (q_load_e (i := k) (k := 1) (E := standE) rfl (by kernel_rfl) (by kernel_rfl) (O.reads.mono ((hN.trans o_all1.le).trans G4.own)) (by omega) (by decide) (by kernel_rfl)) ?_
        refine WL.q (.bool false) (by kernel_rfl) rfl (by kernel_rfl) (q_bool (x := ((((row.getD k standE.dflt)).free) != (((row.getD k standE.dflt)).free))) (by kernel_rfl) (bne_self_eq_false _)) ?_
        refine WL.q (.bool false) (by kernel_rfl) rfl (by kernel_rfl) (by kernel_rfl) ?_
        refine WL.q (.slice a4 fs4.length fs4.length) (by kernel_rfl) rfl (by kernel_rfl) (by kernel_rfl) ?_
        refine WL.q (.slice a row.length c) (by kernel_rfl) rfl (by kernel_rfl) (by kernel_rfl) ?_
        refine WL.q (.int .i64 (k : Int)) (by kernel_rfl) rfl (by kernel_rfl) (by kernel_rfl) ?_
        refine WL.q (eptr a (k * standE.sz)) (by kernel_rfl) rfl (by kernel_rfl) (q_indexAddr (i := k) (E := standE) (xs := row) (e := 43) (c := c) (k := .i64) (m := row.length) rfl rfl (by kernel_rfl) (by kernel_rfl) (by kernel_rfl) (O.reads.mono ((hN.trans o_all1.le).trans G4.own)) (by omega)) ?_
        refine WL.q (eptr a (k * standE.sz + 2)) (by kernel_rfl) rfl (by kernel_rfl) (q_fieldAddr_e (i := k) (k := k * standE.sz) (off := 2) rfl (by kernel_rfl) (by kernel_rfl) (O.reads.mono ((hN.trans o_all1.le).trans G4.own)) (by omega)) ?_
        refine WL.q (.slice (((row.getD k standE.dflt)).a) (((row.getD k standE.dflt)).ws.length) (((row.getD k standE.dflt)).c)) (by kernel_rfl) rfl (by kernel_rfl) (q_load_e (i := k) (k := 2) (E := standE) rfl (by kernel_rfl) (by kernel_rfl) (O.reads.mono ((hN.trans o_all1.le).trans G4.own)) (by omega) (by decide) (by kernel_rfl)) ?_
        have hfl : fs4.length ≤ 1000 := by rw [map_len q4]; exact hsl
        refine WL.call (by kernel_rfl) rfl (by kernel_rfl) (by kernel_rfl) (rows_spec (xs := fs4) (ys := ((row.getD k standE.dflt)).ws) (ca := fs4.length) (cb := (((row.getD k standE.dflt)).c)) G4 (r4.mono (PH.le_refl _)) g4 ((Gr (row.getD k standE.dflt) (getD_mem (d := standE.dflt) (show k < row.length from (by omega)))).1.mono (l1.trans l4)) (all_up @whyG.mono (l1.trans l4) (Gr (row.getD k standE.dflt) (getD_mem (d := standE.dflt) (show k < row.length from (by omega)))).2.1) (by omega)) (Ret.elim ?_)
        rintro w7 h7 _ l7 G7 rfl
        refine WL.know 58 (.bool true) (x := (.bool (rowsW fs4 (((row.getD k standE.dflt)).ws)))) (by kernel_rfl) (congrArg Value.bool (by exact decide_eq_true (by assumption))) ?_
        refine WL.q (.bool false) (by kernel_rfl) rfl (by kernel_rfl) (by kernel_rfl) ?_
        refine WL.q (.bool false) (by kernel_rfl) rfl (by kernel_rfl) (by kernel_rfl) ?_
        refine WL.q (.bool false) (by kernel_rfl) rfl (by kernel_rfl) (by kernel_rfl) ?_
        refine WL.q (.pointer (some ⟨t, 0, none⟩)) (by kernel_rfl) rfl (by kernel_rfl) (by kernel_rfl) ?_
        refine WL.q (.slice a row.length c) (by kernel_rfl) rfl (by kernel_rfl) (by kernel_rfl) ?_
        refine WL.q (.int .i64 (k : Int)) (by kernel_rfl) rfl (by kernel_rfl) (by kernel_rfl) ?_
        refine WL.q (eptr a (k * standE.sz)) (by kernel_rfl) rfl (by kernel_rfl) (q_indexAddr (i := k) (E := standE) (xs := row) (e := 43) (c := c) (k := .i64) (m := row.length) rfl rfl (by kernel_rfl) (by kernel_rfl) (by kernel_rfl) (O.reads.mono ((hN.trans o_all1.le).trans G7.own)) (by omega)) ?_
        refine WL.q (eptr a (k * standE.sz + 0)) (by kernel_rfl) rfl (by kernel_rfl) (q_fieldAddr_e (i := k) (k := k * standE.sz) (off := 0) rfl (by kernel_rfl) (by kernel_rfl) (O.reads.mono ((hN.trans o_all1.le).trans G7.own)) (by omega)) ?_
        refine WL.q (.int .i64 (((row.getD k standE.dflt)).fact)) (by kernel_rfl) rfl (by kernel_rfl) (q_load_e (i := k) (k := 0) (E := standE) rfl (by kernel_rfl) (by kernel_rfl) (O.reads.mono ((hN.trans o_all1.le).trans G7.own)) (by omega) (by decide) (by kernel_rfl)) ?_
        refine WL.call (by kernel_rfl) rfl (by kernel_rfl) (by kernel_rfl) (standsS_spec G7 (A.mono ((l1.trans l4).trans l7)) (hM.trans o_all1.le) (k := k) (by omega) (s := (row.getD k standE.dflt)) (by rw [← hd]; exact abs_getS (by omega))) (Ret.elim ?_)
        rintro w8 h8 _ l8 G8 rfl
        refine WL.know 68 (.bool true) (x := (.bool (standsS (row.getD k standE.dflt)))) (by kernel_rfl) (congrArg Value.bool (by unfold standsS; rw [show (row.getD k standE.dflt).free = true from c5]; first | rfl | (rw [Bool.false_or, decide_eq_decide]; omega))) ?_
        refine WL.q (.bool true) (by kernel_rfl) rfl (by kernel_rfl) (by kernel_rfl) ?_
        refine WL.q (.bool false) (by kernel_rfl) rfl (by kernel_rfl) (by kernel_rfl) ?_
        refine WL.q (.bool false) (by kernel_rfl) rfl (by kernel_rfl) (by kernel_rfl) ?_
        refine WL.nil ?_
        refine EX.then_code ?_
        refine CW.cond_f (by kernel_rfl) (by kernel_rfl) ?_
        refine CW.skip ?_
        refine EX.then_code ?_
        refine CW.seq ?_
        refine CW.seq ?_
        refine CW.region ?_
        refine WL.q (.bool true) (by kernel_rfl) rfl (by kernel_rfl) (by kernel_rfl) ?_
        refine WL.nil ?_
        refine EX.then_code ?_
        refine CW.cond_t (by kernel_rfl) (by kernel_rfl) ?_
        refine CW.region ?_
        refine WL.q (.int .i64 (c0 : Int)) (by kernel_rfl) rfl (by kernel_rfl) (by kernel_rfl) ?_
        refine WL.q (.int .i64 ((c0 + 1 : Nat) : Int)) (by kernel_rfl) rfl (by kernel_rfl) (q_int (x := IntKind.i64.wrap ((c0 : Int) + 1)) (by kernel_rfl) (wrap_to (by omega) (by omega) (by omega))) ?_
        refine WL.q (.int .i64 ((c0 + 1 : Nat) : Int)) (by kernel_rfl) rfl (by kernel_rfl) (by kernel_rfl) ?_
        refine WL.nil ?_
        refine EX.then_code ?_
        refine CW.region ?_
        refine WL.q (.slice ao fs.length co) (by kernel_rfl) rfl (by kernel_rfl) (by kernel_rfl) ?_
        refine WL.q (.slice a row.length c) (by kernel_rfl) rfl (by kernel_rfl) (by kernel_rfl) ?_
        refine WL.q (.int .i64 (k : Int)) (by kernel_rfl) rfl (by kernel_rfl) (by kernel_rfl) ?_
        refine WL.q (eptr a (k * standE.sz)) (by kernel_rfl) rfl (by kernel_rfl) (q_indexAddr (i := k) (E := standE) (xs := row) (e := 43) (c := c) (k := .i64) (m := row.length) rfl rfl (by kernel_rfl) (by kernel_rfl) (by kernel_rfl) (O.reads.mono ((hN.trans o_all1.le).trans G8.own)) (by omega)) ?_
        refine WL.q (eptr a (k * standE.sz + 2)) (by kernel_rfl) rfl (by kernel_rfl) (q_fieldAddr_e (i := k) (k := k * standE.sz) (off := 2) rfl (by kernel_rfl) (by kernel_rfl) (O.reads.mono ((hN.trans o_all1.le).trans G8.own)) (by omega)) ?_
        refine WL.q (.slice (((row.getD k standE.dflt)).a) (((row.getD k standE.dflt)).ws.length) (((row.getD k standE.dflt)).c)) (by kernel_rfl) rfl (by kernel_rfl) (q_load_e (i := k) (k := 2) (E := standE) rfl (by kernel_rfl) (by kernel_rfl) (O.reads.mono ((hN.trans o_all1.le).trans G8.own)) (by omega) (by decide) (by kernel_rfl)) ?_
        refine WL.ex (by kernel_rfl) rfl (by kernel_rfl) (q_app (e := 28) (bytes := 40) (cap := co) (c2 := (((row.getD k standE.dflt)).c)) (M0 := M) (xs := fs) (ys := (((row.getD k standE.dflt)).ws)) G8 o_all1 ((Gr (row.getD k standE.dflt) (getD_mem (d := standE.dflt) (show k < row.length from (by omega)))).1.mono ((((l1.trans l4).trans l7).trans l8).trans G8.imm)) rfl (by kernel_rfl) (by kernel_rfl) (by kernel_rfl) (by first | (simp only [maxLen, List.length_append, List.length_cons, List.length_nil]; omega) | (simp only [maxLen]; omega)) (by first | omega | (simp only [List.length_append, List.length_cons, List.length_nil]; omega))) ?_
        rintro _ w9 ⟨a9, k9, M9, rfl, G9, o9, z9⟩
        have g9 : ∀ e_ ∈ (fs ++ (((row.getD k standE.dflt)).ws)), whyG h8 e_ := all_app (all_up @whyG.mono ((l4.trans l7).trans l8) g_all1) (all_up @whyG.mono (((l1.trans l4).trans l7).trans l8) (Gr (row.getD k standE.dflt) (getD_mem (d := standE.dflt) (show k < row.length from (by omega)))).2.1)
        refine WL.q (.slice a9 ((fs ++ (((row.getD k standE.dflt)).ws)).length) k9) (by kernel_rfl) rfl (by kernel_rfl) (by kernel_rfl) ?_
        refine WL.nil ?_
        refine EX.in_block ?_
        refine EX.then_code ?_
        refine CW.region ?_
        refine WL.q (.int .i64 (k : Int)) (by kernel_rfl) rfl (by kernel_rfl) (by kernel_rfl) ?_
        refine WL.q (.int .i64 ((k + 1 : Nat) : Int)) (by kernel_rfl) rfl (by kernel_rfl) (q_int (x := IntKind.i64.wrap ((k : Int) + 1)) (by kernel_rfl) (wrap_to (by omega) (by omega) (by omega))) ?_
        refine WL.q (.int .i64 ((k + 1 : Nat) : Int)) (by kernel_rfl) rfl (by kernel_rfl) (by kernel_rfl) ?_
        refine WL.nil ?_
        have hss : standsS (row.getD k standE.dflt) = true := by unfold standsS; rw [show (row.getD k standE.dflt).free = true from c5]; rfl
        exact EX.then_loop ⟨k + 1, c0 + 1, (fs ++ (((row.getD k standE.dflt)).ws)), a9, k9⟩ ⟨(by kernel_rfl), (by kernel_rfl), (lk_int (x := ((c0 + 1 : Nat) : Int)) (by kernel_rfl) (by first | omega | (dsimp only; omega) | rfl | (dsimp only; rfl))), (by kernel_rfl), (lk_int (x := ((k + 1 : Nat) : Int)) (by kernel_rfl) (by first | omega | (dsimp only; omega) | rfl | (dsimp only; rfl))), trivial⟩ ⟨h8, M9, (((l1.trans l4).trans l7).trans l8), G9, o9, g9, (by first | omega | assumption | (dsimp only [List.length_nil, List.length_append, List.length_cons]; omega)), (by rw [stf_succ (by omega) hss, ← hc0]), (by first | omega | assumption | (dsimp only [List.length_nil, List.length_append, List.length_cons]; omega)), (by rw [hfs]; exact flat_succ (by omega)), (by simp only [List.length_append]; omega)⟩ (by first | omega | (dsimp only; omega))
      ·
        skip
        refine WL.know 35 (.bool false) (x := .bool (((row.getD k standE.dflt)).free)) (by kernel_rfl) (congrArg Value.bool c5) ?_
        refine WL.q (.slice a row.length c) (by kernel_rfl) rfl (by kernel_rfl) (by kernel_rfl) ?_
        refine WL.q (.int .i64 (k : Int)) (by kernel_rfl) rfl (by kernel_rfl) (by kernel_rfl) ?_
        refine WL.q (eptr a (k * standE.sz)) (by kernel_rfl) rfl (by kernel_rfl) (q_indexAddr (i := k) (E := standE) (xs := row) (e := 43) (c := c) (k := .i64) (m := row.length) rfl rfl (by kernel_rfl) (by kernel_rfl) (by kernel_rfl) (O.reads.mono ((hN.trans o_all1.le).trans G4.own)) (by omega)) ?_
        refine WL.q (eptr a (k * standE.sz + 2)) (by kernel_rfl) rfl (by kernel_rfl) (q_fieldAddr_e (i := k) (k := k * standE.sz) (off := 2) rfl (by kernel_rfl) (by kernel_rfl) (O.reads.mono ((hN.trans o_all1.le).trans G4.own)) (by omega)) ?_
        refine WL.q (.slice (((row.getD k standE.dflt)).a) (((row.getD k standE.dflt)).ws.length) (((row.getD k standE.dflt)).c)) (by kernel_rfl) rfl (by kernel_rfl) (q_load_e (i := k) (k := 2) (E := standE) rfl (by kernel_rfl) (by kernel_rfl) (O.reads.mono ((hN.trans o_all1.le).trans G4.own)) (by omega) (by decide) (by kernel_rfl)) ?_
        refine WL.q (.int .i64 (((row.getD k standE.dflt)).ws.length : Int)) (by kernel_rfl) rfl (by kernel_rfl) (by kernel_rfl) ?_
        refine WL.q (.bool (decide ((((row.getD k standE.dflt)).ws.length : Int) > 0))) (by kernel_rfl) rfl (by kernel_rfl) (by kernel_rfl) ?_
        refine WL.q (.bool (decide ((((row.getD k standE.dflt)).ws.length : Int) > 0))) (by kernel_rfl) rfl (by kernel_rfl) (by kernel_rfl) ?_
        refine WL.q (.bool (decide ((((row.getD k standE.dflt)).ws.length : Int) > 0))) (by kernel_rfl) rfl (by kernel_rfl) (by kernel_rfl) ?_
        refine WL.nil ?_
        refine EX.then_code ?_
        refine CW.seq ?_
        refine CW.seq ?_
        refine CW.region ?_
        refine WL.q (.bool (((row.getD k standE.dflt)).free)) (by kernel_rfl) rfl (by kernel_rfl) (by kernel_rfl) ?_
        refine WL.q (.slice a row.length c) (by kernel_rfl) rfl (by kernel_rfl) (by kernel_rfl) ?_
        refine WL.q (.int .i64 (k : Int)) (by kernel_rfl) rfl (by kernel_rfl) (by kernel_rfl) ?_
        refine WL.q (eptr a (k * standE.sz)) (by kernel_rfl) rfl (by kernel_rfl) (q_indexAddr (i := k) (E := standE) (xs := row) (e := 43) (c := c) (k := .i64) (m := row.length) rfl rfl (by kernel_rfl) (by kernel_rfl) (by kernel_rfl) (O.reads.mono ((hN.trans o_all1.le).trans G4.own)) (by omega)) ?_
        refine WL.q (eptr a (k * standE.sz + 1)) (by kernel_rfl) rfl (by kernel_rfl) (q_fieldAddr_e (i := k) (k := k * standE.sz) (off := 1) rfl (by kernel_rfl) (by kernel_rfl) (O.reads.mono ((hN.trans o_all1.le).trans G4.own)) (by omega)) ?_
        refine WL.q (.bool (((row.getD k standE.dflt)).free)) (by kernel_rfl) rfl (by kernel_rfl) (q_load_e (i := k) (k := 1) (E := standE) rfl (by kernel_rfl) (by kernel_rfl) (O.reads.mono ((hN.trans o_all1.le).trans G4.own)) (by omega) (by decide) (by kernel_rfl)) ?_
        refine WL.q (.bool false) (by kernel_rfl) rfl (by kernel_rfl) (q_bool (x := ((((row.getD k standE.dflt)).free) != (((row.getD k standE.dflt)).free))) (by kernel_rfl) (bne_self_eq_false _)) ?_
        refine WL.q (.bool false) (by kernel_rfl) rfl (by kernel_rfl) (by kernel_rfl) ?_
        refine WL.q (.slice a4 fs4.length fs4.length) (by kernel_rfl) rfl (by kernel_rfl) (by kernel_rfl) ?_
        refine WL.q (.slice a row.length c) (by kernel_rfl) rfl (by kernel_rfl) (by kernel_rfl) ?_
        refine WL.q (.int .i64 (k : Int)) (by kernel_rfl) rfl (by kernel_rfl) (by kernel_rfl) ?_
        refine WL.q (eptr a (k * standE.sz)) (by kernel_rfl) rfl (by kernel_rfl) (q_indexAddr (i := k) (E := standE) (xs := row) (e := 43) (c := c) (k := .i64) (m := row.length) rfl rfl (by kernel_rfl) (by kernel_rfl) (by kernel_rfl) (O.reads.mono ((hN.trans o_all1.le).trans G4.own)) (by omega)) ?_
        refine WL.q (eptr a (k * standE.sz + 2)) (by kernel_rfl) rfl (by kernel_rfl) (q_fieldAddr_e (i := k) (k := k * standE.sz) (off := 2) rfl (by kernel_rfl) (by kernel_rfl) (O.reads.mono ((hN.trans o_all1.le).trans G4.own)) (by omega)) ?_
        refine WL.q (.slice (((row.getD k standE.dflt)).a) (((row.getD k standE.dflt)).ws.length) (((row.getD k standE.dflt)).c)) (by kernel_rfl) rfl (by kernel_rfl) (q_load_e (i := k) (k := 2) (E := standE) rfl (by kernel_rfl) (by kernel_rfl) (O.reads.mono ((hN.trans o_all1.le).trans G4.own)) (by omega) (by decide) (by kernel_rfl)) ?_
        have hfl : fs4.length ≤ 1000 := by rw [map_len q4]; exact hsl
        refine WL.call (by kernel_rfl) rfl (by kernel_rfl) (by kernel_rfl) (rows_spec (xs := fs4) (ys := ((row.getD k standE.dflt)).ws) (ca := fs4.length) (cb := (((row.getD k standE.dflt)).c)) G4 (r4.mono (PH.le_refl _)) g4 ((Gr (row.getD k standE.dflt) (getD_mem (d := standE.dflt) (show k < row.length from (by omega)))).1.mono (l1.trans l4)) (all_up @whyG.mono (l1.trans l4) (Gr (row.getD k standE.dflt) (getD_mem (d := standE.dflt) (show k < row.length from (by omega)))).2.1) (by omega)) (Ret.elim ?_)
        rintro w11 h11 _ l11 G11 rfl
        refine WL.know 58 (.bool true) (x := (.bool (rowsW fs4 (((row.getD k standE.dflt)).ws)))) (by kernel_rfl) (congrArg Value.bool (by exact decide_eq_true (by assumption))) ?_
        refine WL.q (.bool false) (by kernel_rfl) rfl (by kernel_rfl) (by kernel_rfl) ?_
        refine WL.q (.bool false) (by kernel_rfl) rfl (by kernel_rfl) (by kernel_rfl) ?_
        refine WL.q (.bool false) (by kernel_rfl) rfl (by kernel_rfl) (by kernel_rfl) ?_
        refine WL.q (.pointer (some ⟨t, 0, none⟩)) (by kernel_rfl) rfl (by kernel_rfl) (by kernel_rfl) ?_
        refine WL.q (.slice a row.length c) (by kernel_rfl) rfl (by kernel_rfl) (by kernel_rfl) ?_
        refine WL.q (.int .i64 (k : Int)) (by kernel_rfl) rfl (by kernel_rfl) (by kernel_rfl) ?_
        refine WL.q (eptr a (k * standE.sz)) (by kernel_rfl) rfl (by kernel_rfl) (q_indexAddr (i := k) (E := standE) (xs := row) (e := 43) (c := c) (k := .i64) (m := row.length) rfl rfl (by kernel_rfl) (by kernel_rfl) (by kernel_rfl) (O.reads.mono ((hN.trans o_all1.le).trans G11.own)) (by omega)) ?_
        refine WL.q (eptr a (k * standE.sz + 0)) (by kernel_rfl) rfl (by kernel_rfl) (q_fieldAddr_e (i := k) (k := k * standE.sz) (off := 0) rfl (by kernel_rfl) (by kernel_rfl) (O.reads.mono ((hN.trans o_all1.le).trans G11.own)) (by omega)) ?_
        refine WL.q (.int .i64 (((row.getD k standE.dflt)).fact)) (by kernel_rfl) rfl (by kernel_rfl) (q_load_e (i := k) (k := 0) (E := standE) rfl (by kernel_rfl) (by kernel_rfl) (O.reads.mono ((hN.trans o_all1.le).trans G11.own)) (by omega) (by decide) (by kernel_rfl)) ?_
        refine WL.call (by kernel_rfl) rfl (by kernel_rfl) (by kernel_rfl) (standsS_spec G11 (A.mono ((l1.trans l4).trans l11)) (hM.trans o_all1.le) (k := k) (by omega) (s := (row.getD k standE.dflt)) (by rw [← hd]; exact abs_getS (by omega))) (Ret.elim ?_)
        rintro w12 h12 _ l12 G12 rfl
        refine WL.know 68 (.bool (decide ((((row.getD k standE.dflt)).ws.length : Int) > 0))) (x := (.bool (standsS (row.getD k standE.dflt)))) (by kernel_rfl) (congrArg Value.bool (by unfold standsS; rw [show (row.getD k standE.dflt).free = false from c5]; first | rfl | (rw [Bool.false_or, decide_eq_decide]; omega))) ?_
        refine WL.q (.bool (decide ((((row.getD k standE.dflt)).ws.length : Int) > 0))) (by kernel_rfl) rfl (by kernel_rfl) (by kernel_rfl) ?_
        refine WL.q (.bool false) (by kernel_rfl) rfl (by kernel_rfl) (q_bool (x := ((decide ((((row.getD k standE.dflt)).ws.length : Int) > 0)) != (decide ((((row.getD k standE.dflt)).ws.length : Int) > 0)))) (by kernel_rfl) (bne_self_eq_false _)) ?_
        refine WL.q (.bool false) (by kernel_rfl) rfl (by kernel_rfl) (by kernel_rfl) ?_
        refine WL.nil ?_
        refine EX.then_code ?_
        refine CW.cond_f (by kernel_rfl) (by kernel_rfl) ?_
        refine CW.skip ?_
        refine EX.then_code ?_
        refine CW.seq ?_
        refine CW.seq ?_
        refine CW.region ?_
        refine WL.q (.bool (decide ((((row.getD k standE.dflt)).ws.length : Int) > 0))) (by kernel_rfl) rfl (by kernel_rfl) (by kernel_rfl) ?_
        refine WL.nil ?_
        refine EX.then_code ?_
        refine CW.cond (decide ((((row.getD k standE.dflt)).ws.length : Int) > 0)) (by kernel_rfl) (by kernel_rfl) (fun c13 => ?_) (fun c13 => ?_)
        ·
          skip
          have d14 := of_decide_eq_true c13
          refine CW.region ?_
          refine WL.q (.int .i64 (c0 : Int)) (by kernel_rfl) rfl (by kernel_rfl) (by kernel_rfl) ?_
          refine WL.q (.int .i64 ((c0 + 1 : Nat) : Int)) (by kernel_rfl) rfl (by kernel_rfl) (q_int (x := IntKind.i64.wrap ((c0 : Int) + 1)) (by kernel_rfl) (wrap_to (by omega) (by omega) (by omega))) ?_
          refine WL.q (.int .i64 ((c0 + 1 : Nat) : Int)) (by kernel_rfl) rfl (by kernel_rfl) (by kernel_rfl) ?_
          refine WL.nil ?_
          refine EX.then_code ?_
          refine CW.region ?_
          refine WL.q (.slice ao fs.length co) (by kernel_rfl) rfl (by kernel_rfl) (by kernel_rfl) ?_
          refine WL.q (.slice a row.length c) (by kernel_rfl) rfl (by kernel_rfl) (by kernel_rfl) ?_
          refine WL.q (.int .i64 (k : Int)) (by kernel_rfl) rfl (by kernel_rfl) (by kernel_rfl) ?_
          refine WL.q (eptr a (k * standE.sz)) (by kernel_rfl) rfl (by kernel_rfl) (q_indexAddr (i := k) (E := standE) (xs := row) (e := 43) (c := c) (k := .i64) (m := row.length) rfl rfl (by kernel_rfl) (by kernel_rfl) (by kernel_rfl) (O.reads.mono ((hN.trans o_all1.le).trans G12.own)) (by omega)) ?_
          refine WL.q (eptr a (k * standE.sz + 2)) (by kernel_rfl) rfl (by kernel_rfl) (q_fieldAddr_e (i := k) (k := k * standE.sz) (off := 2) rfl (by kernel_rfl) (by kernel_rfl) (O.reads.mono ((hN.trans o_all1.le).trans G12.own)) (by omega)) ?_
          refine WL.q (.slice (((row.getD k standE.dflt)).a) (((row.getD k standE.dflt)).ws.length) (((row.getD k standE.dflt)).c)) (by kernel_rfl) rfl (by kernel_rfl) (q_load_e (i := k) (k := 2) (E := standE) rfl (by kernel_rfl) (by kernel_rfl) (O.reads.mono ((hN.trans o_all1.le).trans G12.own)) (by omega) (by decide) (by kernel_rfl)) ?_
          refine WL.ex (by kernel_rfl) rfl (by kernel_rfl) (q_app (e := 28) (bytes := 40) (cap := co) (c2 := (((row.getD k standE.dflt)).c)) (M0 := M) (xs := fs) (ys := (((row.getD k standE.dflt)).ws)) G12 o_all1 ((Gr (row.getD k standE.dflt) (getD_mem (d := standE.dflt) (show k < row.length from (by omega)))).1.mono ((((l1.trans l4).trans l11).trans l12).trans G12.imm)) rfl (by kernel_rfl) (by kernel_rfl) (by kernel_rfl) (by first | (simp only [maxLen, List.length_append, List.length_cons, List.length_nil]; omega) | (simp only [maxLen]; omega)) (by first | omega | (simp only [List.length_append, List.length_cons, List.length_nil]; omega))) ?_
          rintro _ w15 ⟨a15, k15, M15, rfl, G15, o15, z15⟩
          have g15 : ∀ e_ ∈ (fs ++ (((row.getD k standE.dflt)).ws)), whyG h12 e_ := all_app (all_up @whyG.mono ((l4.trans l11).trans l12) g_all1) (all_up @whyG.mono (((l1.trans l4).trans l11).trans l12) (Gr (row.getD k standE.dflt) (getD_mem (d := standE.dflt) (show k < row.length from (by omega)))).2.1)
          refine WL.q (.slice a15 ((fs ++ (((row.getD k standE.dflt)).ws)).length) k15) (by kernel_rfl) rfl (by kernel_rfl) (by kernel_rfl) ?_
          refine WL.nil ?_
          refine EX.in_block ?_
          refine EX.then_code ?_
          refine CW.region ?_
          refine WL.q (.int .i64 (k : Int)) (by kernel_rfl) rfl (by kernel_rfl) (by kernel_rfl) ?_
          refine WL.q (.int .i64 ((k + 1 : Nat) : Int)) (by kernel_rfl) rfl (by kernel_rfl) (q_int (x := IntKind.i64.wrap ((k : Int) + 1)) (by kernel_rfl) (wrap_to (by omega) (by omega) (by omega))) ?_
          refine WL.q (.int .i64 ((k + 1 : Nat) : Int)) (by kernel_rfl) rfl (by kernel_rfl) (by kernel_rfl) ?_
          refine WL.nil ?_
          have hss : standsS (row.getD k standE.dflt) = true := by unfold standsS; rw [show (row.getD k standE.dflt).free = false from c5, Bool.false_or]; exact decide_eq_true (by omega)
          exact EX.then_loop ⟨k + 1, c0 + 1, (fs ++ (((row.getD k standE.dflt)).ws)), a15, k15⟩ ⟨(by kernel_rfl), (by kernel_rfl), (lk_int (x := ((c0 + 1 : Nat) : Int)) (by kernel_rfl) (by first | omega | (dsimp only; omega) | rfl | (dsimp only; rfl))), (by kernel_rfl), (lk_int (x := ((k + 1 : Nat) : Int)) (by kernel_rfl) (by first | omega | (dsimp only; omega) | rfl | (dsimp only; rfl))), trivial⟩ ⟨h12, M15, (((l1.trans l4).trans l11).trans l12), G15, o15, g15, (by first | omega | assumption | (dsimp only [List.length_nil, List.length_append, List.length_cons]; omega)), (by rw [stf_succ (by omega) hss, ← hc0]), (by first | omega | assumption | (dsimp only [List.length_nil, List.length_append, List.length_cons]; omega)), (by rw [hfs]; exact flat_succ (by omega)), (by simp only [List.length_append]; omega)⟩ (by first | omega | (dsimp only; omega))
        ·
          skip
          have d16 := of_decide_eq_false c13
          refine CW.skip ?_
          refine EX.then_code ?_
          refine CW.region ?_
          refine WL.q (.slice ao fs.length co) (by kernel_rfl) rfl (by kernel_rfl) (by kernel_rfl) ?_
          refine WL.q (.slice a row.length c) (by kernel_rfl) rfl (by kernel_rfl) (by kernel_rfl) ?_
          refine WL.q (.int .i64 (k : Int)) (by kernel_rfl) rfl (by kernel_rfl) (by kernel_rfl) ?_
          refine WL.q (eptr a (k * standE.sz)) (by kernel_rfl) rfl (by kernel_rfl) (q_indexAddr (i := k) (E := standE) (xs := row) (e := 43) (c := c) (k := .i64) (m := row.length) rfl rfl (by kernel_rfl) (by kernel_rfl) (by kernel_rfl) (O.reads.mono ((hN.trans o_all1.le).trans G12.own)) (by omega)) ?_
          refine WL.q (eptr a (k * standE.sz + 2)) (by kernel_rfl) rfl (by kernel_rfl) (q_fieldAddr_e (i := k) (k := k * standE.sz) (off := 2) rfl (by kernel_rfl) (by kernel_rfl) (O.reads.mono ((hN.trans o_all1.le).trans G12.own)) (by omega)) ?_
          refine WL.q (.slice (((row.getD k standE.dflt)).a) (((row.getD k standE.dflt)).ws.length) (((row.getD k standE.dflt)).c)) (by kernel_rfl) rfl (by kernel_rfl) (q_load_e (i := k) (k := 2) (E := standE) rfl (by kernel_rfl) (by kernel_rfl) (O.reads.mono ((hN.trans o_all1.le).trans G12.own)) (by omega) (by decide) (by kernel_rfl)) ?_
          refine WL.ex (by kernel_rfl) rfl (by kernel_rfl) (q_app (e := 28) (bytes := 40) (cap := co) (c2 := (((row.getD k standE.dflt)).c)) (M0 := M) (xs := fs) (ys := (((row.getD k standE.dflt)).ws)) G12 o_all1 ((Gr (row.getD k standE.dflt) (getD_mem (d := standE.dflt) (show k < row.length from (by omega)))).1.mono ((((l1.trans l4).trans l11).trans l12).trans G12.imm)) rfl (by kernel_rfl) (by kernel_rfl) (by kernel_rfl) (by first | (simp only [maxLen, List.length_append, List.length_cons, List.length_nil]; omega) | (simp only [maxLen]; omega)) (by first | omega | (simp only [List.length_append, List.length_cons, List.length_nil]; omega))) ?_
          rintro _ w17 ⟨a17, k17, M17, rfl, G17, o17, z17⟩
          have g17 : ∀ e_ ∈ (fs ++ (((row.getD k standE.dflt)).ws)), whyG h12 e_ := all_app (all_up @whyG.mono ((l4.trans l11).trans l12) g_all1) (all_up @whyG.mono (((l1.trans l4).trans l11).trans l12) (Gr (row.getD k standE.dflt) (getD_mem (d := standE.dflt) (show k < row.length from (by omega)))).2.1)
          refine WL.q (.slice a17 ((fs ++ (((row.getD k standE.dflt)).ws)).length) k17) (by kernel_rfl) rfl (by kernel_rfl) (by kernel_rfl) ?_
          refine WL.nil ?_
          refine EX.in_block ?_
          refine EX.then_code ?_
          refine CW.region ?_
          refine WL.q (.int .i64 (k : Int)) (by kernel_rfl) rfl (by kernel_rfl) (by kernel_rfl) ?_
          refine WL.q (.int .i64 ((k + 1 : Nat) : Int)) (by kernel_rfl) rfl (by kernel_rfl) (q_int (x := IntKind.i64.wrap ((k : Int) + 1)) (by kernel_rfl) (wrap_to (by omega) (by omega) (by omega))) ?_
          refine WL.q (.int .i64 ((k + 1 : Nat) : Int)) (by kernel_rfl) rfl (by kernel_rfl) (by kernel_rfl) ?_
          refine WL.nil ?_
          have hss : standsS (row.getD k standE.dflt) = false := by unfold standsS; rw [show (row.getD k standE.dflt).free = false from c5, Bool.false_or]; exact decide_eq_false (by omega)
          exact EX.then_loop ⟨k + 1, c0, (fs ++ (((row.getD k standE.dflt)).ws)), a17, k17⟩ ⟨(by kernel_rfl), (by kernel_rfl), (by kernel_rfl), (by kernel_rfl), (lk_int (x := ((k + 1 : Nat) : Int)) (by kernel_rfl) (by first | omega | (dsimp only; omega) | rfl | (dsimp only; rfl))), trivial⟩ ⟨h12, M17, (((l1.trans l4).trans l11).trans l12), G17, o17, g17, (by first | omega | assumption | (dsimp only [List.length_nil, List.length_append, List.length_cons]; omega)), (by rw [stf_skip (by omega) hss, ← hc0]), (by first | omega | assumption | (dsimp only [List.length_nil, List.length_append, List.length_cons]; omega)), (by rw [hfs]; exact flat_succ (by omega)), (by simp only [List.length_append]; omega)⟩ (by first | omega | (dsimp only; omega))
  ·
    skip
    have d18 := of_decide_eq_false c2
    refine CW.exit ?_
    refine EX.exit_then ?_
    refine EX.exit_then ?_
    refine EX.exit_here ?_
    refine EX.then_code ?_
    refine CW.seq ?_
    refine CW.region ?_
    refine WL.q (.pointer (some ⟨t, 0, none⟩)) (by kernel_rfl) rfl (by kernel_rfl) (by kernel_rfl) ?_
    obtain ⟨h19, l19, G19, r19⟩ := o_all1.freeze G1
    have hfsl : fs.length ≤ 1000000 := by omega
    refine WL.call (by kernel_rfl) rfl (by kernel_rfl) (by kernel_rfl) (allA_spec G19 (A.mono (l1.trans l19)) hM hb) (Ret.elim ?_)
    rintro w20 h20 _ l20 G20 ⟨ag, got, rfl, rg, gg, hgot⟩
    have hgl : got.length ≤ 1000 := by rw [← List.length_map (f := datW), hgot]; exact Nat.le_trans hok.2.2 hb
    have hfr : k = row.length := by omega
    have hfs2 : fs = row.flatMap (·.ws) := by rw [hfs, hfr, List.take_length]
    have hmem : ∀ v, v ∈ fs.map datW ↔ v ∈ got.map datW := by intro v; rw [hgot, hcm.2, hfs2]; exact mem_flat hd v
    have hgn : (got.map datW).Nodup := by rw [hgot]; exact hcm.1
    refine WL.q (.slice ag got.length got.length) (by kernel_rfl) rfl (by kernel_rfl) (by kernel_rfl) ?_
    refine WL.nil ?_
    refine EX.then_code ?_
    refine CW.seq ?_
    refine CW.seq ?_
    refine CW.region ?_
    refine WL.q (.int .i64 0) (by kernel_rfl) rfl (by kernel_rfl) (by kernel_rfl) ?_
    refine WL.nil ?_
    refine EX.then_code ?_
    refine CW.block ?_
    refine CW.loop (β := Nat) (fun x_ => [(0, (.pointer (some ⟨t, 0, none⟩))), (5, (.int .i64 (c0 : Int))), (6, (.slice ao fs.length co)), (11, (.slice ag got.length got.length)), (12, (.int .i64 (x_ : Int)))]) (fun x_ w_ => ∃ h_, (PH.le h20 h_) ∧ (Wld K w_ h_ M) ∧ (x_ ≤ fs.length)) (fun x_ => fs.length - x_) 0 ⟨(by kernel_rfl), (by kernel_rfl), (by kernel_rfl), (by kernel_rfl), (lk_int (x := 0) (by kernel_rfl) (by first | omega | (dsimp only; omega) | rfl | (dsimp only; rfl))), trivial⟩ ⟨h20, (PH.le_refl _), G20, (by first | omega | assumption | (dsimp only [List.length_nil, List.length_append, List.length_cons]; omega))⟩ ?_
    rintro k2 w21 ⟨h21, l21, G21, hk2⟩
    try dsimp only at *
    refine CW.seq ?_
    refine CW.seq ?_
    refine CW.region ?_
    refine WL.q (.int .i64 (k2 : Int)) (by kernel_rfl) rfl (by kernel_rfl) (by kernel_rfl) ?_
    refine WL.q (.slice ao fs.length co) (by kernel_rfl) rfl (by kernel_rfl) (by kernel_rfl) ?_
    refine WL.q (.int .i64 (fs.length : Int)) (by kernel_rfl) rfl (by kernel_rfl) (by kernel_rfl) ?_
    refine WL.q (.bool (decide ((k2 : Int) < (fs.length : Int)))) (by kernel_rfl) rfl (by kernel_rfl) (by kernel_rfl) ?_
    refine WL.nil ?_
    refine EX.then_code ?_
    refine CW.cond (decide ((k2 : Int) < (fs.length : Int))) (by kernel_rfl) (by kernel_rfl) (fun c22 => ?_) (fun c22 => ?_)
    ·
      skip
      have d23 := of_decide_eq_true c22
      refine CW.skip ?_
      refine EX.then_code ?_
      refine CW.seq ?_
      refine CW.block ?_
      refine CW.seq ?_
      refine CW.region ?_
      refine WL.q (.slice ag got.length got.length) (by kernel_rfl) rfl (by kernel_rfl) (by kernel_rfl) ?_
      refine WL.q (.slice ao fs.length co) (by kernel_rfl) rfl (by kernel_rfl) (by kernel_rfl) ?_
      refine WL.q (.int .i64 (k2 : Int)) (by kernel_rfl) rfl (by kernel_rfl) (by kernel_rfl) ?_
      refine WL.q (eptr ao (k2 * whyE.sz)) (by kernel_rfl) rfl (by kernel_rfl) (q_indexAddr (i := k2) (E := whyE) (xs := fs) (e := 28) (c := co) (k := .i64) (m := fs.length) rfl rfl (by kernel_rfl) (by kernel_rfl) (by kernel_rfl) (r19.mono ((l20.trans l21).trans G21.imm)) (by omega)) ?_
      refine WL.q (.agg #[(.int .i64 (((fs.getD k2 whyE.dflt)).rule)), (.int .i64 (((fs.getD k2 whyE.dflt)).alt)), (.slice (((fs.getD k2 whyE.dflt)).a) (((fs.getD k2 whyE.dflt)).facts.length) (((fs.getD k2 whyE.dflt)).c))]) (by kernel_rfl) rfl (by kernel_rfl) (q_val (q_loadAgg_e (i := k2) (E := whyE) rfl (by kernel_rfl) (by kernel_rfl) (r19.mono ((l20.trans l21).trans G21.imm)) (by omega)) (by kernel_rfl)) ?_
      refine WL.call (by kernel_rfl) rfl (by kernel_rfl) (by kernel_rfl) (find_spec (l := got) (c := got.length) G21 (rg.mono l21) (all_up @whyG.mono l21 gg) (by first | omega | (rw [List.length_take]; omega)) (y := ((fs.getD k2 whyE.dflt))) ((all_up @whyG.mono ((l19.trans l20).trans l21) g_all1) _ (getD_mem (d := whyE.dflt) (show k2 < fs.length by omega)))) (Ret.elim ?_)
      rintro w24 h24 _ l24 G24 rfl
      refine WL.q (.bool (decide ((idxF (fun x => sameW x ((fs.getD k2 whyE.dflt))) got) < 0))) (by kernel_rfl) rfl (by kernel_rfl) (by kernel_rfl) ?_
      refine WL.know 96 (.bool false) (x := (.bool (decide ((idxF (fun x => sameW x ((fs.getD k2 whyE.dflt))) got) < 0)))) (by kernel_rfl) (congrArg Value.bool (decide_eq_false (by have q_ := idx_ge (l := got) (y := fs.getD k2 whyE.dflt) ((hmem _).1 (dat_get (by omega))); omega))) ?_
      refine WL.nil ?_
      refine EX.then_code ?_
      refine CW.cond_f (by kernel_rfl) (by kernel_rfl) ?_
      refine CW.skip ?_
      refine EX.in_block ?_
      refine EX.then_code ?_
      refine CW.region ?_
      refine WL.q (.int .i64 (k2 : Int)) (by kernel_rfl) rfl (by kernel_rfl) (by kernel_rfl) ?_
      refine WL.q (.int .i64 ((k2 + 1 : Nat) : Int)) (by kernel_rfl) rfl (by kernel_rfl) (q_int (x := IntKind.i64.wrap ((k2 : Int) + 1)) (by kernel_rfl) (wrap_to (by omega) (by omega) (by omega))) ?_
      refine WL.q (.int .i64 ((k2 + 1 : Nat) : Int)) (by kernel_rfl) rfl (by kernel_rfl) (by kernel_rfl) ?_
      refine WL.nil ?_
      exact EX.then_loop (k2 + 1) ⟨(by kernel_rfl), (by kernel_rfl), (by kernel_rfl), (by kernel_rfl), (lk_int (x := ((k2 + 1 : Nat) : Int)) (by kernel_rfl) (by first | omega | (dsimp only; omega) | rfl | (dsimp only; rfl))), trivial⟩ ⟨h24, (l21.trans l24), G24, (by first | omega | assumption | (dsimp only [List.length_nil, List.length_append, List.length_cons]; omega))⟩ (by first | omega | (dsimp only; omega))
    ·
      skip
      have d25 := of_decide_eq_false c22
      refine CW.exit ?_
      refine EX.exit_then ?_
      refine EX.exit_then ?_
      refine EX.exit_here ?_
      refine EX.then_code ?_
      refine CW.seq ?_
      refine CW.seq ?_
      refine CW.region ?_
      refine WL.q (.int .i64 0) (by kernel_rfl) rfl (by kernel_rfl) (by kernel_rfl) ?_
      refine WL.nil ?_
      refine EX.then_code ?_
      refine CW.block ?_
      refine CW.loop (β := Nat) (fun x_ => [(0, (.pointer (some ⟨t, 0, none⟩))), (5, (.int .i64 (c0 : Int))), (6, (.slice ao fs.length co)), (11, (.slice ag got.length got.length)), (13, (.int .i64 (x_ : Int)))]) (fun x_ w_ => ∃ h_, (PH.le h21 h_) ∧ (Wld K w_ h_ M) ∧ (x_ ≤ got.length)) (fun x_ => got.length - x_) 0 ⟨(by kernel_rfl), (by kernel_rfl), (by kernel_rfl), (by kernel_rfl), (lk_int (x := 0) (by kernel_rfl) (by first | omega | (dsimp only; omega) | rfl | (dsimp only; rfl))), trivial⟩ ⟨h21, (PH.le_refl _), G21, (by first | omega | assumption | (dsimp only [List.length_nil, List.length_append, List.length_cons]; omega))⟩ ?_
      rintro k3 w26 ⟨h26, l26, G26, hk3⟩
      try dsimp only at *
      refine CW.seq ?_
      refine CW.seq ?_
      refine CW.region ?_
      refine WL.q (.int .i64 (k3 : Int)) (by kernel_rfl) rfl (by kernel_rfl) (by kernel_rfl) ?_
      refine WL.q (.slice ag got.length got.length) (by kernel_rfl) rfl (by kernel_rfl) (by kernel_rfl) ?_
      refine WL.q (.int .i64 (got.length : Int)) (by kernel_rfl) rfl (by kernel_rfl) (by kernel_rfl) ?_
      refine WL.q (.bool (decide ((k3 : Int) < (got.length : Int)))) (by kernel_rfl) rfl (by kernel_rfl) (by kernel_rfl) ?_
      refine WL.nil ?_
      refine EX.then_code ?_
      refine CW.cond (decide ((k3 : Int) < (got.length : Int))) (by kernel_rfl) (by kernel_rfl) (fun c27 => ?_) (fun c27 => ?_)
      ·
        skip
        have d28 := of_decide_eq_true c27
        refine CW.skip ?_
        refine EX.then_code ?_
        refine CW.seq ?_
        refine CW.block ?_
        refine CW.seq ?_
        refine CW.draw (by kernel_rfl) [(4, fun w_ => RS (PH.all w_) whyE ag got), (14, fun w_ => RS (PH.all w_) whyE ag got)] ?_
        refine DW.take (T := fun _ => True) 0 (.slice ao fs.length co) rfl (by kernel_rfl) rfl (by kernel_rfl) (.inl fun _ => trivial) (by kernel_rfl) (Deaf.thens (Deaf.block (Deaf.thens (Deaf.thens (Deaf.block (Deaf.thens (Deaf.body RetM.not_panicked))))))) (fun w_ _ => (by kernel_rfl)) trivial ?_
        refine DW.take (T := fun _ => True) 1 (.slice ag got.length got.length) rfl (by kernel_rfl) rfl (by kernel_rfl) (.inl fun _ => trivial) (by kernel_rfl) (Deaf.thens (Deaf.block (Deaf.thens (Deaf.thens (Deaf.block (Deaf.thens (Deaf.body RetM.not_panicked))))))) (fun w_ _ => (by kernel_rfl)) trivial ?_
        refine DW.take (T := fun _ => True) 2 (.int .i64 (k3 : Int)) rfl (by kernel_rfl) rfl (by kernel_rfl) (.inl fun _ => trivial) (by kernel_rfl) (Deaf.thens (Deaf.block (Deaf.thens (Deaf.thens (Deaf.block (Deaf.thens (Deaf.body RetM.not_panicked))))))) (fun w_ _ => (by kernel_rfl)) trivial ?_
        refine DW.take (T := fun _ => True) 3 (eptr ag (k3 * whyE.sz)) rfl (by kernel_rfl) rfl (by kernel_rfl) (.inl fun _ => trivial) (by kernel_rfl) (Deaf.thens (Deaf.block (Deaf.thens (Deaf.thens (Deaf.block (Deaf.thens (Deaf.body RetM.not_panicked))))))) (fun w_ _ => (q_indexAddr (i := k3) (E := whyE) (xs := got) (e := 28) (c := got.length) (k := .i64) (m := got.length) rfl rfl (by kernel_rfl) (by kernel_rfl) (by kernel_rfl) (rg.mono ((l21.trans l26).trans (G26.drew).imm)) (by omega))) trivial ?_
        refine DW.take (T := fun w_ => RS (PH.all w_) whyE ag got) 4 (.agg #[(.int .i64 (((got.getD k3 whyE.dflt)).rule)), (.int .i64 (((got.getD k3 whyE.dflt)).alt)), (.slice (((got.getD k3 whyE.dflt)).a) (((got.getD k3 whyE.dflt)).facts.length) (((got.getD k3 whyE.dflt)).c))]) rfl (by kernel_rfl) rfl (by kernel_rfl) (.inr (by first | exact .head _ | exact .tail _ (.head _) | exact .tail _ (.tail _ (.head _)) | exact .tail _ (.tail _ (.tail _ (.head _))) | simp)) (by kernel_rfl) (Deaf.thens (Deaf.block (Deaf.thens (Deaf.thens (Deaf.block (Deaf.thens (Deaf.body RetM.not_panicked))))))) (fun w_ T_ => (q_val (q_loadAgg_e (i := k3) (E := whyE) rfl (by kernel_rfl) (by kernel_rfl) T_ (by omega)) (by kernel_rfl))) (rg.mono ((l21.trans l26).trans (G26.drew).imm)) ?_
        refine DW.only 5 (by kernel_rfl) ?_
        refine DOp.call rfl (by kernel_rfl) rfl (by kernel_rfl) (by kernel_rfl) (find_spec (l := fs) (c := co) (G26.drew) (r19.mono ((l20.trans l21).trans l26)) (all_up @whyG.mono (((l19.trans l20).trans l21).trans l26) g_all1) (by first | omega | (rw [List.length_take]; omega)) (y := ((got.getD k3 whyE.dflt))) ((all_up @whyG.mono (l21.trans l26) gg) _ (getD_mem (d := whyE.dflt) (show k3 < got.length by omega)))) (Ret.elimD (fun w29 h29 l29 G29 => ⟨.inl (by kernel_rfl), .inr (fun _ => (rg.mono (((l21.trans l26).trans l29).trans G29.imm))), trivial⟩) ?_)
        rintro w29 h29 _ l29 G29 rfl
        refine DW.take (T := fun _ => True) 6 (.bool (decide ((idxF (fun x => sameW x ((got.getD k3 whyE.dflt))) fs) < 0))) rfl (by kernel_rfl) rfl (by kernel_rfl) (.inl fun _ => trivial) (by kernel_rfl) (Deaf.thens (Deaf.block (Deaf.thens (Deaf.thens (Deaf.block (Deaf.thens (Deaf.body RetM.not_panicked))))))) (fun w_ _ => (by kernel_rfl)) trivial ?_
        refine DW.know 109 (.bool false) (x := (.bool (decide ((idxF (fun x => sameW x ((got.getD k3 whyE.dflt))) fs) < 0)))) (by kernel_rfl) (congrArg Value.bool (decide_eq_false (by have q_ := idx_ge (l := fs) (y := got.getD k3 whyE.dflt) ((hmem _).2 (dat_get (by omega))); omega))) ?_
        refine DW.take (T := fun _ => True) 7 (.bool false) rfl (by kernel_rfl) rfl (by kernel_rfl) (.inl fun _ => trivial) (by kernel_rfl) (Deaf.thens (Deaf.block (Deaf.thens (Deaf.thens (Deaf.block (Deaf.thens (Deaf.body RetM.not_panicked))))))) (fun w_ _ => (by kernel_rfl)) trivial ?_
        refine DW.take (T := fun _ => True) 8 (.slice ag got.length got.length) rfl (by kernel_rfl) rfl (by kernel_rfl) (.inl fun _ => trivial) (by kernel_rfl) (Deaf.thens (Deaf.block (Deaf.thens (Deaf.thens (Deaf.block (Deaf.thens (Deaf.body RetM.not_panicked))))))) (fun w_ _ => (by kernel_rfl)) trivial ?_
        refine DW.take (T := fun _ => True) 9 (.int .i64 (k3 : Int)) rfl (by kernel_rfl) rfl (by kernel_rfl) (.inl fun _ => trivial) (by kernel_rfl) (Deaf.thens (Deaf.block (Deaf.thens (Deaf.thens (Deaf.block (Deaf.thens (Deaf.body RetM.not_panicked))))))) (fun w_ _ => (by kernel_rfl)) trivial ?_
        refine DW.take (T := fun _ => True) 10 (.slice ag (((got.take k3)).length) got.length) rfl (by kernel_rfl) rfl (by kernel_rfl) (.inl fun _ => trivial) (by kernel_rfl) (Deaf.thens (Deaf.block (Deaf.thens (Deaf.thens (Deaf.block (Deaf.thens (Deaf.body RetM.not_panicked))))))) (fun w_ _ => (q_val (q_upto (e := 28) (sz := 3) (len := got.length) (cap := got.length) (k := .i64) rfl (by kernel_rfl) (by kernel_rfl) (by kernel_rfl) (Nat.le_trans (show k3 ≤ got.length by omega) (by omega))) (by rw [List.length_take, Nat.min_eq_left (by omega)]))) trivial ?_
        refine DW.take (T := fun _ => True) 11 (.slice ag got.length got.length) rfl (by kernel_rfl) rfl (by kernel_rfl) (.inl fun _ => trivial) (by kernel_rfl) (Deaf.thens (Deaf.block (Deaf.thens (Deaf.thens (Deaf.block (Deaf.thens (Deaf.body RetM.not_panicked))))))) (fun w_ _ => (by kernel_rfl)) trivial ?_
        refine DW.take (T := fun _ => True) 12 (.int .i64 (k3 : Int)) rfl (by kernel_rfl) rfl (by kernel_rfl) (.inl fun _ => trivial) (by kernel_rfl) (Deaf.thens (Deaf.block (Deaf.thens (Deaf.thens (Deaf.block (Deaf.thens (Deaf.body RetM.not_panicked))))))) (fun w_ _ => (by kernel_rfl)) trivial ?_
        refine DW.take (T := fun _ => True) 13 (eptr ag (k3 * whyE.sz)) rfl (by kernel_rfl) rfl (by kernel_rfl) (.inl fun _ => trivial) (by kernel_rfl) (Deaf.thens (Deaf.block (Deaf.thens (Deaf.thens (Deaf.block (Deaf.thens (Deaf.body RetM.not_panicked))))))) (fun w_ _ => (q_indexAddr (i := k3) (E := whyE) (xs := got) (e := 28) (c := got.length) (k := .i64) (m := got.length) rfl rfl (by kernel_rfl) (by kernel_rfl) (by kernel_rfl) (rg.mono (((l21.trans l26).trans l29).trans G29.imm)) (by omega))) trivial ?_
        refine DW.take (T := fun w_ => RS (PH.all w_) whyE ag got) 14 (.agg #[(.int .i64 (((got.getD k3 whyE.dflt)).rule)), (.int .i64 (((got.getD k3 whyE.dflt)).alt)), (.slice (((got.getD k3 whyE.dflt)).a) (((got.getD k3 whyE.dflt)).facts.length) (((got.getD k3 whyE.dflt)).c))]) rfl (by kernel_rfl) rfl (by kernel_rfl) (.inr (by first | exact .head _ | exact .tail _ (.head _) | exact .tail _ (.tail _ (.head _)) | exact .tail _ (.tail _ (.tail _ (.head _))) | simp)) (by kernel_rfl) (Deaf.thens (Deaf.block (Deaf.thens (Deaf.thens (Deaf.block (Deaf.thens (Deaf.body RetM.not_panicked))))))) (fun w_ T_ => (q_val (q_loadAgg_e (i := k3) (E := whyE) rfl (by kernel_rfl) (by kernel_rfl) T_ (by omega)) (by kernel_rfl))) (rg.mono (((l21.trans l26).trans l29).trans G29.imm)) ?_
        refine DW.only 15 (by kernel_rfl) ?_
        refine DOp.call rfl (by kernel_rfl) rfl (by kernel_rfl) (by kernel_rfl) (find_spec (l := (got.take k3)) (c := got.length) G29 ((rg.upto k3).mono ((l21.trans l26).trans l29)) (all_up @whyG.mono ((l21.trans l26).trans l29) (all_take gg)) (by first | omega | (rw [List.length_take]; omega)) (y := ((got.getD k3 whyE.dflt))) ((all_up @whyG.mono ((l21.trans l26).trans l29) gg) _ (getD_mem (d := whyE.dflt) (show k3 < got.length by omega)))) (Ret.elimD (fun w30 h30 l30 G30 => ⟨.inr (fun _ => (rg.mono ((((l21.trans l26).trans l29).trans l30).trans G30.imm))), .inl (by kernel_rfl), trivial⟩) ?_)
        rintro w30 h30 _ l30 G30 rfl
        refine DW.take (T := fun _ => True) 16 (.bool (decide ((idxF (fun x => sameW x ((got.getD k3 whyE.dflt))) (got.take k3)) ≥ 0))) rfl (by kernel_rfl) rfl (by kernel_rfl) (.inl fun _ => trivial) (by kernel_rfl) (Deaf.thens (Deaf.block (Deaf.thens (Deaf.thens (Deaf.block (Deaf.thens (Deaf.body RetM.not_panicked))))))) (fun w_ _ => (by kernel_rfl)) trivial ?_
        refine DW.know 119 (.bool false) (x := (.bool (decide ((idxF (fun x => sameW x ((got.getD k3 whyE.dflt))) (got.take k3)) ≥ 0)))) (by kernel_rfl) (congrArg Value.bool (decide_eq_false (by have q_ := idx_no (l := got.take k3) (y := got.getD k3 whyE.dflt) (dat_take hgn (by omega)); omega))) ?_
        refine DW.take (T := fun _ => True) 17 (.bool false) rfl (by kernel_rfl) rfl (by kernel_rfl) (.inl fun _ => trivial) (by kernel_rfl) (Deaf.thens (Deaf.block (Deaf.thens (Deaf.thens (Deaf.block (Deaf.thens (Deaf.body RetM.not_panicked))))))) (fun w_ _ => (by kernel_rfl)) trivial ?_
        refine DW.done (by kernel_rfl) ?_
        refine EX.then_code ?_
        refine CW.cond_f (by kernel_rfl) (by kernel_rfl) ?_
        refine CW.skip ?_
        refine EX.in_block ?_
        refine EX.then_code ?_
        refine CW.region ?_
        refine WL.q (.int .i64 (k3 : Int)) (by kernel_rfl) rfl (by kernel_rfl) (by kernel_rfl) ?_
        refine WL.q (.int .i64 ((k3 + 1 : Nat) : Int)) (by kernel_rfl) rfl (by kernel_rfl) (q_int (x := IntKind.i64.wrap ((k3 : Int) + 1)) (by kernel_rfl) (wrap_to (by omega) (by omega) (by omega))) ?_
        refine WL.q (.int .i64 ((k3 + 1 : Nat) : Int)) (by kernel_rfl) rfl (by kernel_rfl) (by kernel_rfl) ?_
        refine WL.nil ?_
        exact EX.then_loop (k3 + 1) ⟨(by kernel_rfl), (by kernel_rfl), (by kernel_rfl), (by kernel_rfl), (lk_int (x := ((k3 + 1 : Nat) : Int)) (by kernel_rfl) (by first | omega | (dsimp only; omega) | rfl | (dsimp only; rfl))), trivial⟩ ⟨h30, ((l26.trans l29).trans l30), G30, (by first | omega | assumption | (dsimp only [List.length_nil, List.length_append, List.length_cons]; omega))⟩ (by first | omega | (dsimp only; omega))
      ·
        skip
        have d31 := of_decide_eq_false c27
        refine CW.exit ?_
        refine EX.exit_then ?_
        refine EX.exit_then ?_
        refine EX.exit_here ?_
        refine EX.then_code ?_
        refine CW.seq ?_
        refine CW.region ?_
        refine WL.q (.pointer (some ⟨t, 0, none⟩)) (by kernel_rfl) rfl (by kernel_rfl) (by kernel_rfl) ?_
        refine WL.call (by kernel_rfl) rfl (by kernel_rfl) (by kernel_rfl) (lenA_spec G26 (A.mono ((((l1.trans l19).trans l20).trans l21).trans l26)) hM hb) (Ret.elim ?_)
        rintro w32 h32 _ l32 G32 rfl
        refine WL.q (.int .i64 (c0 : Int)) (by kernel_rfl) rfl (by kernel_rfl) (by kernel_rfl) ?_
        refine WL.q (.bool ((((ds.filter standsA).length : Int) : Int) == (c0 : Int))) (by kernel_rfl) rfl (by kernel_rfl) (by kernel_rfl) ?_
        refine WL.q (.bool ((((ds.filter standsA).length : Int) : Int) == (c0 : Int))) (by kernel_rfl) rfl (by kernel_rfl) (by kernel_rfl) ?_
        refine WL.nil ?_
        refine EX.then_code ?_
        refine CW.ret ?_
        refine EX.ret1 (v := (.bool ((((ds.filter standsA).length : Int) : Int) == (c0 : Int)))) rfl (by kernel_rfl) ?_
        exact Ret.mk (((((l1.trans l19).trans l20).trans l21).trans l26).trans l32) G32 (congrArg Value.bool (by rw [beq_iff_eq, ← hd, List.filter_map, List.length_map, hc0, show k = row.length from hfr, List.take_length]; congr 2; exact List.filter_congr fun s _ => stands_absS s))
end Go.Proofs
