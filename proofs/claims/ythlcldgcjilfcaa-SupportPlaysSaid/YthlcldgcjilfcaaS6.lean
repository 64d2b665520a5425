import Derived.Test.YthlcldgcjilfcaaS5
import Derived.Test.YthlcldgcjilfcaaSp
namespace Go.Proofs
open Go Go.Wk
def cutR (y : WhyD) (r : RowD) : RowD := RowD.mk r.p r.fact r.free r.a r.c (r.ws.filter fun x => !sameW x y)
def cutIf (y : WhyD) (S : List Int) (r : RowD) : RowD := if r.fact ∈ S then cutR y r else r
def lostF (rs : List RowD) (y : WhyD) (f : Int) : Bool := rs.any fun r => (r.fact == f) && (decide ((cutR y r).ws.length < r.ws.length) && !standsR (cutR y r))
theorem cutR_twice (y : WhyD) (r : RowD) : cutR y (cutR y r) = cutR y r := by
  unfold cutR; simp [List.filter_filter]
theorem cutIf_fact (y : WhyD) (S : List Int) (r : RowD) : (cutIf y S r).fact = r.fact := by unfold cutIf cutR; split <;> rfl
theorem cutIf_p (y : WhyD) (S : List Int) (r : RowD) : (cutIf y S r).p = r.p := by unfold cutIf cutR; split <;> rfl
theorem cut_facts (rs : List RowD) (y : WhyD) (S : List Int) : (rs.map (cutIf y S)).map (·.fact) = rs.map (·.fact) := by
  rw [List.map_map]; exact List.map_congr_left fun r _ => cutIf_fact y S r
theorem getD_map {A B : Type} (f : A → B) (d : A) (e : B) {l : List A} {k : Nat} (hk : k < l.length) : (l.map f).getD k e = f (l.getD k d) := by
  simp [List.getD, hk]
theorem fact_inj {rs : List RowD} (hn : (rs.map (·.fact)).Nodup) {a b : RowD} (ha : a ∈ rs) (hb : b ∈ rs) (e : a.fact = b.fact) : a = b := by
  obtain ⟨i, hi, rfl⟩ := List.getElem_of_mem ha
  obtain ⟨j, hj, rfl⟩ := List.getElem_of_mem hb
  have hp := hn
  unfold List.Nodup at hp
  rw [List.pairwise_map] at hp
  rcases Nat.lt_trichotomy i j with q | q | q
  · exact absurd e (List.pairwise_iff_getElem.1 hp i j hi hj q)
  · subst q; rfl
  · exact absurd e.symm (List.pairwise_iff_getElem.1 hp j i hj hi q)
theorem row_of {rs : List RowD} {f : Int} (h : f ∈ rs.map (·.fact)) : ∃ i, i < rs.length ∧ (rs.getD i rowD0).fact = f := by
  obtain ⟨r, hr, rfl⟩ := List.mem_map.1 h
  obtain ⟨i, hi, rfl⟩ := List.getElem_of_mem hr
  exact ⟨i, hi, by simp [List.getD, hi]⟩
theorem take_mem {ks : List Int} {k : Nat} (hk : k < ks.length) {f : Int} : f ∈ ks.take (k + 1) ↔ f ∈ ks.take k ∨ f = ks.getD k 0 := by
  rw [List.take_succ_eq_append_getElem hk, List.mem_append, List.mem_singleton, show ks.getD k 0 = ks[k] by simp [List.getD, hk]]
theorem cut_set {rs : List RowD} {y : WhyD} {ks : List Int} {k i : Nat} (hn : (rs.map (·.fact)).Nodup) (hk : k < ks.length) (hi : i < rs.length) (hf : (rs.getD i rowD0).fact = ks.getD k 0) :
    (rs.map (cutIf y (ks.take k))).set i (cutR y ((rs.map (cutIf y (ks.take k))).getD i rowD0)) = rs.map (cutIf y (ks.take (k + 1))) := by
  apply List.ext_getElem (by simp)
  intro j h1 h2
  have hj : j < rs.length := by simpa using h2
  have ei : rs.getD i rowD0 = rs[i] := by simp [List.getD, hi]
  rw [List.getElem_set, List.getElem_map]
  split
  · rename_i e; subst e
    rw [getD_map _ rowD0 _ hi, List.getElem_map]
    rw [ei]
    rw [ei] at hf
    have h3 : rs[i].fact ∈ ks.take (k + 1) := (take_mem hk).2 (.inr hf)
    unfold cutIf
    rw [if_pos h3]
    split
    · exact cutR_twice _ _
    · rfl
  · rename_i hne
    rw [List.getElem_map]
    unfold cutIf
    have : rs[j].fact ∈ ks.take (k + 1) ↔ rs[j].fact ∈ ks.take k := by
      rw [take_mem hk]
      constructor
      · rintro (h | h)
        · exact h
        · exfalso
          rw [← hf, ei] at h
          have hp := hn
          unfold List.Nodup at hp
          rw [List.pairwise_map] at hp
          rcases Nat.lt_or_gt_of_ne hne with q | q
          · exact List.pairwise_iff_getElem.1 hp i j hi hj q h.symm
          · exact List.pairwise_iff_getElem.1 hp j i hj hi q h
      · exact .inl
    simp only [this]
theorem cut_all {rs : List RowD} {y : WhyD} {ks : List Int} (h : ∀ r ∈ rs, r.fact ∈ ks) : rs.map (cutIf y ks) = rs.map (cutR y) :=
  List.map_congr_left fun r hr => by unfold cutIf; rw [if_pos (h r hr)]
theorem cut_not {rs : List RowD} {y : WhyD} {ks : List Int} {k i : Nat} (hks : ks.Nodup) (hk : k < ks.length) (hi : i < rs.length) (hf : (rs.getD i rowD0).fact = ks.getD k 0) :
    (rs.map (cutIf y (ks.take k))).getD i rowD0 = rs.getD i rowD0 := by
  rw [getD_map _ rowD0 _ hi]
  unfold cutIf
  rw [if_neg]
  rw [hf]
  have e : ks.getD k 0 = ks[k] := by simp [List.getD, hk]
  rw [e]
  intro hm
  obtain ⟨j, hj, e2⟩ := List.getElem_of_mem hm
  rw [List.getElem_take] at e2
  rw [List.length_take] at hj
  exact List.pairwise_iff_getElem.1 hks j k (by omega) hk (by omega) e2
theorem lost_at {rs : List RowD} {y : WhyD} {f : Int} {i : Nat} (hn : (rs.map (·.fact)).Nodup) (hi : i < rs.length) (hf : (rs.getD i rowD0).fact = f) :
    lostF rs y f = (decide ((cutR y (rs.getD i rowD0)).ws.length < (rs.getD i rowD0).ws.length) && !standsR (cutR y (rs.getD i rowD0))) := by
  have hm := getD_mem (d := rowD0) hi
  rw [Bool.eq_iff_iff]
  constructor
  · intro h
    obtain ⟨r, hr, h2⟩ := List.any_eq_true.1 h
    rw [Bool.and_eq_true, beq_iff_eq] at h2
    have := fact_inj hn hr hm (h2.1.trans hf.symm)
    rw [← this]; exact h2.2
  · intro h
    exact List.any_eq_true.2 ⟨_, hm, by rw [Bool.and_eq_true, beq_iff_eq]; exact ⟨hf, h⟩⟩
theorem lost_succ {rs : List RowD} {y : WhyD} {ks : List Int} {k : Nat} (hk : k < ks.length) (h : lostF rs y (ks.getD k 0) = true) : (ks.take k).filter (lostF rs y) ++ [ks.getD k 0] = (ks.take (k + 1)).filter (lostF rs y) := by
  have e : ks.getD k 0 = ks[k] := by simp [List.getD, hk]
  rw [List.take_succ_eq_append_getElem hk, List.filter_append, ← e, List.filter_cons_of_pos h]; rfl
theorem lost_skip {rs : List RowD} {y : WhyD} {ks : List Int} {k : Nat} (hk : k < ks.length) (h : lostF rs y (ks.getD k 0) = false) : (ks.take k).filter (lostF rs y) = (ks.take (k + 1)).filter (lostF rs y) := by
  have e : ks.getD k 0 = ks[k] := by simp [List.getD, hk]
  rw [List.take_succ_eq_append_getElem hk, List.filter_append, ← e, List.filter_cons_of_neg (by rw [h]; simp)]; simp
theorem stands_at {K : Key} {w : World} {h M0 M Mt : PH} (G : Wld K w h M) {t : Nat} {cv : Value} {rs : List RowD} (A : HeadL t cv rs M0 Mt) (hM : PH.le Mt M) (hn : (rs.map (·.fact)).Nodup) {k : Nat} (hk : k < rs.length) {f : Int} (hf : (rs.getD k rowD0).fact = f) {r : RowD} (hr : rs.getD k rowD0 = r) :
    Calls Try.prog 12 #[.pointer (some ⟨t, 0, none⟩), .int .i64 f] w (Ret K h M fun _ v => v = .bool (standsR r)) := hr ▸ stands_yes G A hM hn hk hf
theorem getD_set {rs : List RowD} {i : Nat} (hi : i < rs.length) (r : RowD) : (rs.set i r).getD i rowD0 = r := by simp [List.getD, hi]
theorem TabOk.cut {h : PH} {rs : List RowD} {came : List WhyD} {n : Nat} (ok : TabOk h rs came n) (y : WhyD) (S : List Int) : TabOk h (rs.map (cutIf y S)) came n := by
  refine ⟨fun r hr => ?_, ok.all, by rw [cut_facts]; exact ok.nodup, fun r hr => ?_, by rw [List.length_map]; exact ok.len, fun r hr => ?_, ok.lenc⟩ <;> obtain ⟨q, hq, rfl⟩ := List.mem_map.1 hr
  · intro w hw
    refine ok.rows q hq w ?_
    unfold cutIf at hw
    split at hw
    · exact (List.mem_filter.1 hw).1
    · exact hw
  · rw [cutIf_fact]; exact ok.i64 q hq
  · unfold cutIf
    split
    · exact Nat.le_trans (List.length_filter_le _ _) (ok.lens q hq)
    · exact ok.lens q hq
theorem sort_perm (l : List Int) : (sortInts l).Perm l := List.mergeSort_perm _ _

theorem cut_none (rs : List RowD) (y : WhyD) (ks : List Int) : rs.map (cutIf y (ks.take 0)) = rs := by
  have : ∀ r ∈ rs, cutIf y (ks.take 0) r = id r := fun r _ => by unfold cutIf; simp
  rw [List.map_congr_left this]; simp

set_option maxHeartbeats 1000000 in
theorem lose_spec {K : Key} {w : World} {h M0 M : PH} (G : Wld K w h M) {t : Nat} {rs : List RowD} {came : List WhyD} {n : Nat} (A : TabL h t rs came n M0 M) (hb : n ≤ 1000) {y : WhyD} (gy : whyG h y) :
    Calls Try.prog 16 #[.pointer (some ⟨t, 0, none⟩), .agg (whyE.enc y).toArray] w (RetM K h fun h' M' v => ∃ a os, v = .slice a os.length os.length ∧ RS h' intE a os ∧ os = (sortInts (rs.map (·.fact))).filter (lostF rs y) ∧ TabL h' t (rs.map (cutR y)) (sweepC (rs.map (cutR y)) came) n M0 M') := by
  obtain ⟨ca, cc, Mr, ⟨bm, es, clk, Ma, Mb, Bt, Bm, Rs, mi⟩, Oc, ok⟩ := A
  refine enter (l := [(.pointer (some ⟨t, 0, none⟩)), (.agg #[(.int .i64 ((y).rule)), (.int .i64 ((y).alt)), (.slice ((y).a) ((y).facts.length) ((y).c))])]) Try.func16 rfl Try.ntmps16 (Nat.le_of_ble_eq_true rfl) ?_
  simp only [params]
  refine CW.seq ?_
  refine CW.region ?_
  refine WL.ex (by kernel_rfl) rfl (by kernel_rfl) (q_newF (ob := (.cells #[(.int .i64 ((y).rule)), (.int .i64 ((y).alt)), (.slice ((y).a) ((y).facts.length) ((y).c))] 28 (0, 0))) G (fun b_ => .pointer (some ⟨b_, 0, none⟩)) (fun u_ => by kernel_rfl)) ?_
  rintro _ w1 ⟨b1, h1, rfl, l1, G1, hb1, L1⟩
  refine WL.q (.slice none 0 0) (by kernel_rfl) rfl (by kernel_rfl) (by kernel_rfl) ?_
  refine WL.nil ?_
  refine EX.then_code ?_
  refine CW.seq ?_
  refine CW.region ?_
  refine WL.q (.slice none 0 0) (by kernel_rfl) rfl (by kernel_rfl) (by kernel_rfl) ?_
  refine WL.nil ?_
  refine EX.then_code ?_
  refine CW.seq ?_
  refine CW.seq ?_
  refine CW.region ?_
  refine WL.q (.pointer (some ⟨t, 0, none⟩)) (by kernel_rfl) rfl (by kernel_rfl) (by kernel_rfl) ?_
  refine WL.q (.pointer (some ⟨t, 0, none⟩)) (by kernel_rfl) rfl (by kernel_rfl) (by kernel_rfl) ?_
  refine WL.q (.pointer (some ⟨t, 0, none⟩)) (by kernel_rfl) rfl (by kernel_rfl) (by kernel_rfl) ?_
  refine WL.q (.map (some bm)) (by kernel_rfl) rfl (by kernel_rfl) (q_load (off := 0) rfl (by kernel_rfl) (by kernel_rfl) (G1.own _ _ (((Bm.le.trans (Ly.le (Ly.starL Ly.rowA rs) Rs)).trans Oc.le) _ _ Bt.at)) (by kernel_rfl)) ?_
  refine WL.call (by kernel_rfl) rfl (by kernel_rfl) (by kernel_rfl) (keys_spec G1 bm) (Ret.elim ?_)
  rintro w2 h2 _ l2 G2 ⟨b2, rfl, hx2⟩
  obtain ⟨ks, hks⟩ : ∃ ks, ks = sortInts ((rs.map rowEnt).map (·.1)) := ⟨_, rfl⟩
  refine WL.call (by kernel_rfl) rfl (by kernel_rfl) (by kernel_rfl) (hks ▸ sorted_spec G2 (G2.imm _ _ ((PH.le_refl _) _ _ hx2)) (G2.own _ _ (((Ly.le (Ly.starL Ly.rowA rs) Rs).trans Oc.le) _ _ Bm.at)) mi (by simp; have := ok.len; omega) (fun q hq => by obtain ⟨r, hr, rfl⟩ := List.mem_map.1 hq; exact ok.i64 r hr)) (RetM.elim ?_)
  rintro w3 h3 M3 _ l3 G3 ⟨aks, cks, rfl, o3⟩
  obtain ⟨h4, l4, G4, r4⟩ := o3.freeze G3
  have hke : (rs.map rowEnt).map (·.1) = rs.map (·.fact) := by rw [List.map_map]; rfl
  rw [hke] at hks
  have hkp : ks.Perm (rs.map (·.fact)) := hks ▸ sort_perm _
  have hkn : ks.Nodup := (hkp.nodup_iff).2 ok.nodup
  have hkl : ks.length ≤ n := by rw [hkp.length_eq, List.length_map]; exact ok.len
  refine WL.q (.int .i64 (ks.length : Int)) (by kernel_rfl) rfl (by kernel_rfl) (by kernel_rfl) ?_
  refine WL.q (.int .i64 0) (by kernel_rfl) rfl (by kernel_rfl) (by kernel_rfl) ?_
  refine WL.nil ?_
  refine EX.then_code ?_
  refine CW.block ?_
  refine CW.loop (β := Nat × List Int × Option Addr × Nat) (fun x_ => [(0, (.pointer (some ⟨t, 0, none⟩))), (3, (.pointer (some ⟨b1, 0, none⟩))), (4, (.slice none 0 0)), (5, (.slice x_.2.2.1 x_.2.1.length x_.2.2.2)), (15, (.slice aks ks.length cks)), (16, (.int .i64 (ks.length : Int))), (17, (.int .i64 (x_.1 : Int)))]) (fun x_ w_ => ∃ h_ M0_ M1_ M2_ M3_ M4_, (PH.le h4 h_) ∧ (Wld K w_ h_ M4_) ∧ (Blk t (.cells #[.map (some bm), (.slice ca came.length cc)] 53 (0, 0)) M0 M0_) ∧ (MapB (.int .i64) intK bm ((rs.map (cutIf y (ks.take x_.1))).map rowEnt) M0_ M1_) ∧ (StarL rowA (rs.map (cutIf y (ks.take x_.1))) M1_ M2_) ∧ (Own 28 whyE M2_ M3_ ca cc came) ∧ (Own 3 intE M3_ M4_ x_.2.2.1 x_.2.2.2 x_.2.1) ∧ (∀ e_ ∈ came, whyG h_ e_) ∧ (x_.1 ≤ ks.length) ∧ (x_.2.1 = (ks.take x_.1).filter (lostF rs y)) ∧ (x_.2.1.length ≤ x_.1)) (fun x_ => ks.length - x_.1) ⟨0, [], none, 0⟩ ⟨(by kernel_rfl), (by kernel_rfl), (by kernel_rfl), (by kernel_rfl), (by kernel_rfl), (by kernel_rfl), (lk_int (x := 0) (by kernel_rfl) (by first | omega | (dsimp only; omega) | rfl | (dsimp only; rfl))), trivial⟩ ⟨h4, Ma, Mb, Mr, M, M, (PH.le_refl _), G4, Bt, ⟨_, _, Bm, ((show rs.map rowEnt = (rs.map (cutIf y (ks.take 0))).map rowEnt by rw [cut_none]) ▸ mi)⟩, ((show rs = rs.map (cutIf y (ks.take 0)) by rw [cut_none]) ▸ Rs), Oc, (Own.nil 3 intE M), (all_up @whyG.mono (((l1.trans l2).trans l3).trans l4) ok.all), (by first | omega | assumption | (dsimp only [List.length_nil, List.length_append, List.length_cons]; omega)), rfl, (Nat.le_refl _)⟩ ?_
  rintro ⟨k, os, ao, co⟩ w5 ⟨h5, M0_5, M1_5, M2_5, M3_5, M4_5, l5, G5, o_t5, ⟨esbm5, ckbm5, Bbm5, mbm5⟩, o_rows5, o_came5, o_out5, g_came5, hk, hos, hol⟩
  try dsimp only at *
  refine CW.seq ?_
  refine CW.region ?_
  refine WL.q (.bool (decide ((k : Int) < (ks.length : Int)))) (by kernel_rfl) rfl (by kernel_rfl) (by kernel_rfl) ?_
  refine WL.nil ?_
  refine EX.then_code ?_
  refine CW.seq ?_
  refine CW.cond (decide ((k : Int) < (ks.length : Int))) (by kernel_rfl) (by kernel_rfl) (fun c6 => ?_) (fun c6 => ?_)
  ·
    skip
    have d7 := of_decide_eq_true c6
    refine CW.skip ?_
    refine EX.then_code ?_
    refine CW.seq ?_
    refine CW.block ?_
    refine CW.seq ?_
    refine CW.region ?_
    refine WL.q (eptr aks (k * intE.sz)) (by kernel_rfl) rfl (by kernel_rfl) (q_indexAddr (i := k) (E := intE) (xs := ks) (e := 3) (c := cks) (k := .i64) (m := ks.length) rfl rfl (by kernel_rfl) (by kernel_rfl) (by kernel_rfl) (r4.mono (l5.trans G5.imm)) (by omega)) ?_
    rcases row_of (rs := (rs.map (cutIf y (ks.take k)))) (f := ks.getD k 0) (by rw [cut_facts]; exact hkp.mem_iff.1 (by exact getD_mem (d := (0 : Int)) (by omega))) with ⟨i, hi, hif⟩
    ·
      skip
      obtain ⟨N8, s9, s10⟩ : ∃ N_, Own 28 whyE M1_5 N_ ca cc came ∧ StarL rowA (rs.map (cutIf y (ks.take k))) N_ M3_5 := Ly.swap (Ly.starL Ly.rowA (rs.map (cutIf y (ks.take k)))) (Ly.own (E := whyE) 28 ca cc came) o_rows5 o_came5
      obtain ⟨N11, s12, s13⟩ : ∃ N_, Own 3 intE N8 N_ ao co os ∧ StarL rowA (rs.map (cutIf y (ks.take k))) N_ M4_5 := Ly.swap (Ly.starL Ly.rowA (rs.map (cutIf y (ks.take k)))) (Ly.own (E := intE) 3 ao co os) s10 o_out5
      have hi2 : i < rs.length := by simpa using hi
      have hif2 : (rs.getD i rowD0).fact = ks.getD k 0 := by rw [getD_map _ rowD0 _ hi2, cutIf_fact] at hif; exact hif
      have hnd : ((rs.map (cutIf y (ks.take k))).map (·.fact)).Nodup := by rw [cut_facts]; exact ok.nodup
      have hl := ents_some hnd hi
      rw [hif] at hl
      have okc := TabOk.cut ok y (ks.take k)
      have okr : ∀ w ∈ ((rs.map (cutIf y (ks.take k))).getD i rowD0).ws, whyG h w := okc.rows _ (getD_mem (d := rowD0) hi)
      have hlw := okc.lens _ (getD_mem (d := rowD0) hi)
      obtain ⟨Mc, Rest, Md, Br, Or⟩ := StarL.pickAt Ly.rowA rowD0 hi s13
      refine WL.q (.int .i64 (ks.getD k intE.dflt)) (by kernel_rfl) rfl (by kernel_rfl) (q_load_e (i := k) (k := 0) (E := intE) rfl (by kernel_rfl) (by kernel_rfl) (r4.mono (l5.trans G5.imm)) (by omega) (by decide) (by kernel_rfl)) ?_
      refine WL.q (.int .i64 (ks.getD k intE.dflt)) (by kernel_rfl) rfl (by kernel_rfl) (by kernel_rfl) ?_
      refine WL.nil ?_
      refine EX.then_code ?_
      refine CW.seq ?_
      refine CW.region ?_
      refine WL.q (.pointer (some ⟨t, 0, none⟩)) (by kernel_rfl) rfl (by kernel_rfl) (by kernel_rfl) ?_
      refine WL.q (.pointer (some ⟨t, 0, none⟩)) (by kernel_rfl) rfl (by kernel_rfl) (by kernel_rfl) ?_
      refine WL.q (.pointer (some ⟨t, 0, none⟩)) (by kernel_rfl) rfl (by kernel_rfl) (by kernel_rfl) ?_
      refine WL.q (.map (some bm)) (by kernel_rfl) rfl (by kernel_rfl) (q_load (off := 0) rfl (by kernel_rfl) (by kernel_rfl) (G5.own _ _ ((((((Bbm5.le.trans s9.le).trans s12.le).trans (Ly.le (Ly.starL Ly.rowA ((rs.map (cutIf y (ks.take k))).take i ++ (rs.map (cutIf y (ks.take k))).drop (i + 1))) Rest)).trans Br.le).trans Or.le) _ _ o_t5.at)) (by kernel_rfl)) ?_
      refine WL.q (.int .i64 (ks.getD k intE.dflt)) (by kernel_rfl) rfl (by kernel_rfl) (by kernel_rfl) ?_
      refine WL.q (.pointer (some ⟨((rs.map (cutIf y (ks.take k))).getD i rowD0).p, 0, none⟩)) (by kernel_rfl) rfl (by kernel_rfl) (q_lookup (k := (ks.getD k 0)) false rfl mapT51 (by kernel_rfl) (by kernel_rfl) (G5.own _ _ (((((s9.le.trans s12.le).trans (Ly.le (Ly.starL Ly.rowA ((rs.map (cutIf y (ks.take k))).take i ++ (rs.map (cutIf y (ks.take k))).drop (i + 1))) Rest)).trans Br.le).trans Or.le) _ _ Bbm5.at)) mbm5 (by rw [hl]; rfl)) ?_
      refine WL.q (.pointer (some ⟨((rs.map (cutIf y (ks.take k))).getD i rowD0).p, 0, none⟩)) (by kernel_rfl) rfl (by kernel_rfl) (by kernel_rfl) ?_
      refine WL.nil ?_
      refine EX.then_code ?_
      refine CW.seq ?_
      refine CW.region ?_
      refine WL.q (.pointer (some ⟨((rs.map (cutIf y (ks.take k))).getD i rowD0).p, 0, none⟩)) (by kernel_rfl) rfl (by kernel_rfl) (by kernel_rfl) ?_
      refine WL.q (.pointer (some ⟨((rs.map (cutIf y (ks.take k))).getD i rowD0).p, 0, none⟩)) (by kernel_rfl) rfl (by kernel_rfl) (by kernel_rfl) ?_
      refine WL.q (.pointer (some ⟨((rs.map (cutIf y (ks.take k))).getD i rowD0).p, 1, none⟩)) (by kernel_rfl) rfl (by kernel_rfl) (by kernel_rfl) ?_
      refine WL.q (.slice (((rs.map (cutIf y (ks.take k))).getD i rowD0).a) (((rs.map (cutIf y (ks.take k))).getD i rowD0).ws.length) (((rs.map (cutIf y (ks.take k))).getD i rowD0).c)) (by kernel_rfl) rfl (by kernel_rfl) (q_load (off := 1) rfl (by kernel_rfl) (by kernel_rfl) (G5.own _ _ (Or.le _ _ Br.at)) (by kernel_rfl)) ?_
      refine WL.q (.int .i64 (((rs.map (cutIf y (ks.take k))).getD i rowD0).ws.length : Int)) (by kernel_rfl) rfl (by kernel_rfl) (by kernel_rfl) ?_
      refine WL.q (.int .i64 (((rs.map (cutIf y (ks.take k))).getD i rowD0).ws.length : Int)) (by kernel_rfl) rfl (by kernel_rfl) (by kernel_rfl) ?_
      refine WL.nil ?_
      refine EX.then_code ?_
      refine CW.seq ?_
      refine CW.draw (by kernel_rfl) [(4, fun w_ => PH.all w_ (((rs.map (cutIf y (ks.take k))).getD i rowD0).p) = some (.cells #[.bool ((rs.map (cutIf y (ks.take k))).getD i rowD0).free, (.slice (((rs.map (cutIf y (ks.take k))).getD i rowD0).a) (((rs.map (cutIf y (ks.take k))).getD i rowD0).ws.length) (((rs.map (cutIf y (ks.take k))).getD i rowD0).c))] 58 (0, 0))), (5, fun w_ => PH.all w_ b1 = some (.cells #[(.int .i64 ((y).rule)), (.int .i64 ((y).alt)), (.slice ((y).a) ((y).facts.length) ((y).c))] 28 (0, 0)))] ?_
      refine DW.take (T := fun _ => True) 0 (.pointer (some ⟨((rs.map (cutIf y (ks.take k))).getD i rowD0).p, 0, none⟩)) rfl (by kernel_rfl) rfl (by kernel_rfl) (.inl fun _ => trivial) (by kernel_rfl) (Deaf.thens (Deaf.block (Deaf.thens (Deaf.thens (Deaf.block (Deaf.thens (Deaf.body RetM.not_panicked))))))) (fun w_ _ => (by kernel_rfl)) trivial ?_
      refine DW.take (T := fun _ => True) 1 (.pointer (some ⟨((rs.map (cutIf y (ks.take k))).getD i rowD0).p, 0, none⟩)) rfl (by kernel_rfl) rfl (by kernel_rfl) (.inl fun _ => trivial) (by kernel_rfl) (Deaf.thens (Deaf.block (Deaf.thens (Deaf.thens (Deaf.block (Deaf.thens (Deaf.body RetM.not_panicked))))))) (fun w_ _ => (by kernel_rfl)) trivial ?_
      refine DW.take (T := fun _ => True) 2 (.pointer (some ⟨((rs.map (cutIf y (ks.take k))).getD i rowD0).p, 0, none⟩)) rfl (by kernel_rfl) rfl (by kernel_rfl) (.inl fun _ => trivial) (by kernel_rfl) (Deaf.thens (Deaf.block (Deaf.thens (Deaf.thens (Deaf.block (Deaf.thens (Deaf.body RetM.not_panicked))))))) (fun w_ _ => (by kernel_rfl)) trivial ?_
      refine DW.take (T := fun _ => True) 3 (.pointer (some ⟨((rs.map (cutIf y (ks.take k))).getD i rowD0).p, 1, none⟩)) rfl (by kernel_rfl) rfl (by kernel_rfl) (.inl fun _ => trivial) (by kernel_rfl) (Deaf.thens (Deaf.block (Deaf.thens (Deaf.thens (Deaf.block (Deaf.thens (Deaf.body RetM.not_panicked))))))) (fun w_ _ => (by kernel_rfl)) trivial ?_
      refine DW.take (T := fun w_ => PH.all w_ (((rs.map (cutIf y (ks.take k))).getD i rowD0).p) = some (.cells #[.bool ((rs.map (cutIf y (ks.take k))).getD i rowD0).free, (.slice (((rs.map (cutIf y (ks.take k))).getD i rowD0).a) (((rs.map (cutIf y (ks.take k))).getD i rowD0).ws.length) (((rs.map (cutIf y (ks.take k))).getD i rowD0).c))] 58 (0, 0))) 4 (.slice (((rs.map (cutIf y (ks.take k))).getD i rowD0).a) (((rs.map (cutIf y (ks.take k))).getD i rowD0).ws.length) (((rs.map (cutIf y (ks.take k))).getD i rowD0).c)) rfl (by kernel_rfl) rfl (by kernel_rfl) (.inr (by first | exact .head _ | exact .tail _ (.head _) | exact .tail _ (.tail _ (.head _)) | exact .tail _ (.tail _ (.tail _ (.head _))) | simp)) (by kernel_rfl) (Deaf.thens (Deaf.block (Deaf.thens (Deaf.thens (Deaf.block (Deaf.thens (Deaf.body RetM.not_panicked))))))) (fun w_ T_ => (q_load (off := 1) rfl (by kernel_rfl) (by kernel_rfl) T_ (by kernel_rfl))) ((G5.drew).own _ _ (Or.le _ _ Br.at)) ?_
      refine DW.take (T := fun w_ => PH.all w_ b1 = some (.cells #[(.int .i64 ((y).rule)), (.int .i64 ((y).alt)), (.slice ((y).a) ((y).facts.length) ((y).c))] 28 (0, 0))) 5 (.agg #[(.int .i64 ((y).rule)), (.int .i64 ((y).alt)), (.slice ((y).a) ((y).facts.length) ((y).c))]) rfl (by kernel_rfl) rfl (by kernel_rfl) (.inr (by first | exact .head _ | exact .tail _ (.head _) | exact .tail _ (.tail _ (.head _)) | exact .tail _ (.tail _ (.tail _ (.head _))) | simp)) (by kernel_rfl) (Deaf.thens (Deaf.block (Deaf.thens (Deaf.thens (Deaf.block (Deaf.thens (Deaf.body RetM.not_panicked))))))) (fun w_ T_ => (q_loadAgg (off := 0) (vs := [(.int .i64 ((y).rule)), (.int .i64 ((y).alt)), (.slice ((y).a) ((y).facts.length) ((y).c))]) rfl (by kernel_rfl) (by kernel_rfl) T_ (agg_at (by kernel_rfl)))) ((G5.drew).imm _ _ ((((l2.trans l3).trans l4).trans l5) _ _ hb1)) ?_
      refine DW.only 6 (by kernel_rfl) ?_
      refine DOp.call rfl (by kernel_rfl) rfl (by kernel_rfl) (by kernel_rfl) (is_spec (G5.drew) y) (Ret.elimD (fun w14 h14 l14 G14 => ⟨.inr (fun _ => (G14.own _ _ (Or.le _ _ Br.at))), .inl (by kernel_rfl), trivial⟩) ?_)
      rintro w14 h14 _ l14 G14 ⟨b14, rfl, q14⟩
      refine DW.only 7 (by kernel_rfl) ?_
      refine DOp.call rfl (by kernel_rfl) rfl (by kernel_rfl) (by kernel_rfl) (del_spec G14 Or (by omega) 33 #[.pointer (some ⟨b14, 0, none⟩)] (fun x => sameW x y) ent33 (fun x hx w' h' M' hl hm g' => isC_spec g' (whyG.mono hl _ ((all_up @whyG.mono (((((l1.trans l2).trans l3).trans l4).trans l5).trans l14) okr) x hx)) (whyG.mono ((((((l1.trans l2).trans l3).trans l4).trans l5).trans l14).trans hl) _ gy) (hl _ _ ((PH.le_refl _) _ _ q14)))) (RetM.elimD (fun w15 h15 M15 v_ l15 G15 p_ => by obtain ⟨rfl, o15⟩ := p_; exact ⟨.inl (by kernel_rfl), .inr (fun _ => (G15.imm _ _ ((((((l2.trans l3).trans l4).trans l5).trans l14).trans l15) _ _ hb1))), trivial⟩) ?_)
      rintro w15 h15 M15 _ l15 G15 ⟨rfl, o15⟩
      refine DW.take (T := fun _ => True) 8 (.pointer (some ⟨((rs.map (cutIf y (ks.take k))).getD i rowD0).p, 0, none⟩)) rfl (by kernel_rfl) rfl (by kernel_rfl) (.inl fun _ => trivial) (by kernel_rfl) (Deaf.thens (Deaf.block (Deaf.thens (Deaf.thens (Deaf.block (Deaf.thens (Deaf.body RetM.not_panicked))))))) (fun w_ _ => (by kernel_rfl)) trivial ?_
      refine DW.take (T := fun _ => True) 9 (.pointer (some ⟨((rs.map (cutIf y (ks.take k))).getD i rowD0).p, 1, none⟩)) rfl (by kernel_rfl) rfl (by kernel_rfl) (.inl fun _ => trivial) (by kernel_rfl) (Deaf.thens (Deaf.block (Deaf.thens (Deaf.thens (Deaf.block (Deaf.thens (Deaf.body RetM.not_panicked))))))) (fun w_ _ => (by kernel_rfl)) trivial ?_
      refine DW.only 10 (by kernel_rfl) ?_
      obtain ⟨N16, s17, s18⟩ : ∃ N_, Own 28 whyE Mc N_ (((rs.map (cutIf y (ks.take k))).getD i rowD0).a) (((rs.map (cutIf y (ks.take k))).getD i rowD0).c) (((rs.map (cutIf y (ks.take k))).getD i rowD0).ws.filter fun x => !sameW x y) ∧ Blk (((rs.map (cutIf y (ks.take k))).getD i rowD0).p) (.cells #[.bool ((rs.map (cutIf y (ks.take k))).getD i rowD0).free, (.slice (((rs.map (cutIf y (ks.take k))).getD i rowD0).a) (((rs.map (cutIf y (ks.take k))).getD i rowD0).ws.length) (((rs.map (cutIf y (ks.take k))).getD i rowD0).c))] 58 (0, 0)) N_ M15 := Ly.swap (Ly.blk (((rs.map (cutIf y (ks.take k))).getD i rowD0).p) (.cells #[.bool ((rs.map (cutIf y (ks.take k))).getD i rowD0).free, (.slice (((rs.map (cutIf y (ks.take k))).getD i rowD0).a) (((rs.map (cutIf y (ks.take k))).getD i rowD0).ws.length) (((rs.map (cutIf y (ks.take k))).getD i rowD0).c))] 58 (0, 0))) (Ly.own (E := whyE) 28 (((rs.map (cutIf y (ks.take k))).getD i rowD0).a) (((rs.map (cutIf y (ks.take k))).getD i rowD0).c) (((rs.map (cutIf y (ks.take k))).getD i rowD0).ws.filter fun x => !sameW x y)) Br o15
      refine DOp.exu rfl (by kernel_rfl) rfl (by kernel_rfl) (q_storeB (off := 1) (et := 58) (v := (.slice (((rs.map (cutIf y (ks.take k))).getD i rowD0).a) ((((rs.map (cutIf y (ks.take k))).getD i rowD0).ws.filter fun x => !sameW x y).length) (((rs.map (cutIf y (ks.take k))).getD i rowD0).c))) (vs := [(.slice (((rs.map (cutIf y (ks.take k))).getD i rowD0).a) ((((rs.map (cutIf y (ks.take k))).getD i rowD0).ws.filter fun x => !sameW x y).length) (((rs.map (cutIf y (ks.take k))).getD i rowD0).c))]) #[(.bool (((rs.map (cutIf y (ks.take k))).getD i rowD0).free)), (.slice (((rs.map (cutIf y (ks.take k))).getD i rowD0).a) ((((rs.map (cutIf y (ks.take k))).getD i rowD0).ws.filter fun x => !sameW x y).length) (((rs.map (cutIf y (ks.take k))).getD i rowD0).c))] G15 s18 rfl (by kernel_rfl) (by kernel_rfl) (by kernel_rfl) (by kernel_rfl) (by simp [Value.oneCell']) (by simp) (by kernel_rfl)) (fun w19 p_ => by obtain ⟨M19, G19, B19⟩ := p_; exact ⟨.inl (by kernel_rfl), .inl (by kernel_rfl), trivial⟩) ?_
      rintro w19 ⟨M19, G19, B19⟩
      refine DW.done (by kernel_rfl) ?_
      refine EX.then_code ?_
      refine CW.seq ?_
      refine CW.region ?_
      refine WL.q (.pointer (some ⟨((rs.map (cutIf y (ks.take k))).getD i rowD0).p, 0, none⟩)) (by kernel_rfl) rfl (by kernel_rfl) (by kernel_rfl) ?_
      refine WL.q (.pointer (some ⟨((rs.map (cutIf y (ks.take k))).getD i rowD0).p, 0, none⟩)) (by kernel_rfl) rfl (by kernel_rfl) (by kernel_rfl) ?_
      refine WL.q (.pointer (some ⟨((rs.map (cutIf y (ks.take k))).getD i rowD0).p, 1, none⟩)) (by kernel_rfl) rfl (by kernel_rfl) (by kernel_rfl) ?_
      refine WL.q (.slice (((rs.map (cutIf y (ks.take k))).getD i rowD0).a) ((((rs.map (cutIf y (ks.take k))).getD i rowD0).ws.filter fun x => !sameW x y).length) (((rs.map (cutIf y (ks.take k))).getD i rowD0).c)) (by kernel_rfl) rfl (by kernel_rfl) (q_load (off := 1) rfl (by kernel_rfl) (by kernel_rfl) (G19.own _ _ B19.at) (by kernel_rfl)) ?_
      refine WL.q (.int .i64 ((((rs.map (cutIf y (ks.take k))).getD i rowD0).ws.filter fun x => !sameW x y).length : Int)) (by kernel_rfl) rfl (by kernel_rfl) (by kernel_rfl) ?_
      refine WL.q (.int .i64 (((rs.map (cutIf y (ks.take k))).getD i rowD0).ws.length : Int)) (by kernel_rfl) rfl (by kernel_rfl) (by kernel_rfl) ?_
      refine WL.q (.bool (decide (((((rs.map (cutIf y (ks.take k))).getD i rowD0).ws.filter fun x => !sameW x y).length : Int) < (((rs.map (cutIf y (ks.take k))).getD i rowD0).ws.length : Int)))) (by kernel_rfl) rfl (by kernel_rfl) (by kernel_rfl) ?_
      refine WL.q (.bool (decide (((((rs.map (cutIf y (ks.take k))).getD i rowD0).ws.filter fun x => !sameW x y).length : Int) < (((rs.map (cutIf y (ks.take k))).getD i rowD0).ws.length : Int)))) (by kernel_rfl) rfl (by kernel_rfl) (by kernel_rfl) ?_
      rcases bool_cases (decide (((((rs.map (cutIf y (ks.take k))).getD i rowD0).ws.filter fun x => !sameW x y).length : Int) < (((rs.map (cutIf y (ks.take k))).getD i rowD0).ws.length : Int))) with c20 | c20
      ·
        skip
        have d21 := of_decide_eq_true c20
        refine WL.know 49 (.bool true) (x := .bool (decide (((((rs.map (cutIf y (ks.take k))).getD i rowD0).ws.filter fun x => !sameW x y).length : Int) < (((rs.map (cutIf y (ks.take k))).getD i rowD0).ws.length : Int)))) (by kernel_rfl) (congrArg Value.bool c20) ?_
        refine WL.q (.pointer (some ⟨t, 0, none⟩)) (by kernel_rfl) rfl (by kernel_rfl) (by kernel_rfl) ?_
        refine WL.q (.int .i64 (ks.getD k intE.dflt)) (by kernel_rfl) rfl (by kernel_rfl) (by kernel_rfl) ?_
        obtain ⟨N22, s23, s24⟩ : ∃ N_, Own 28 whyE N11 N_ (((rs.map (cutIf y (ks.take k))).getD i rowD0).a) (((rs.map (cutIf y (ks.take k))).getD i rowD0).c) (((rs.map (cutIf y (ks.take k))).getD i rowD0).ws.filter fun x => !sameW x y) ∧ StarL rowA ((rs.map (cutIf y (ks.take k))).take i ++ (rs.map (cutIf y (ks.take k))).drop (i + 1)) N_ N16 := Ly.swap (Ly.starL Ly.rowA ((rs.map (cutIf y (ks.take k))).take i ++ (rs.map (cutIf y (ks.take k))).drop (i + 1))) (Ly.own (E := whyE) 28 (((rs.map (cutIf y (ks.take k))).getD i rowD0).a) (((rs.map (cutIf y (ks.take k))).getD i rowD0).c) (((rs.map (cutIf y (ks.take k))).getD i rowD0).ws.filter fun x => !sameW x y)) Rest s17
        obtain ⟨N25, s26, s27⟩ : ∃ N_, Blk (((rs.map (cutIf y (ks.take k))).getD i rowD0).p) (.cells #[(.bool (((rs.map (cutIf y (ks.take k))).getD i rowD0).free)), (.slice (((rs.map (cutIf y (ks.take k))).getD i rowD0).a) ((((rs.map (cutIf y (ks.take k))).getD i rowD0).ws.filter fun x => !sameW x y).length) (((rs.map (cutIf y (ks.take k))).getD i rowD0).c))] 58 (0, 0)) N22 N_ ∧ StarL rowA ((rs.map (cutIf y (ks.take k))).take i ++ (rs.map (cutIf y (ks.take k))).drop (i + 1)) N_ M19 := Ly.swap (Ly.starL Ly.rowA ((rs.map (cutIf y (ks.take k))).take i ++ (rs.map (cutIf y (ks.take k))).drop (i + 1))) (Ly.blk (((rs.map (cutIf y (ks.take k))).getD i rowD0).p) (.cells #[(.bool (((rs.map (cutIf y (ks.take k))).getD i rowD0).free)), (.slice (((rs.map (cutIf y (ks.take k))).getD i rowD0).a) ((((rs.map (cutIf y (ks.take k))).getD i rowD0).ws.filter fun x => !sameW x y).length) (((rs.map (cutIf y (ks.take k))).getD i rowD0).c))] 58 (0, 0))) s24 B19
        obtain ⟨N28, s29, s30⟩ : ∃ N_, StarL rowA ((rs.map (cutIf y (ks.take k))).take i ++ (rs.map (cutIf y (ks.take k))).drop (i + 1)) N22 N_ ∧ Blk (((rs.map (cutIf y (ks.take k))).getD i rowD0).p) (.cells #[(.bool (((rs.map (cutIf y (ks.take k))).getD i rowD0).free)), (.slice (((rs.map (cutIf y (ks.take k))).getD i rowD0).a) ((((rs.map (cutIf y (ks.take k))).getD i rowD0).ws.filter fun x => !sameW x y).length) (((rs.map (cutIf y (ks.take k))).getD i rowD0).c))] 58 (0, 0)) N_ M19 := Ly.swap (Ly.blk (((rs.map (cutIf y (ks.take k))).getD i rowD0).p) (.cells #[(.bool (((rs.map (cutIf y (ks.take k))).getD i rowD0).free)), (.slice (((rs.map (cutIf y (ks.take k))).getD i rowD0).a) ((((rs.map (cutIf y (ks.take k))).getD i rowD0).ws.filter fun x => !sameW x y).length) (((rs.map (cutIf y (ks.take k))).getD i rowD0).c))] 58 (0, 0))) (Ly.starL Ly.rowA ((rs.map (cutIf y (ks.take k))).take i ++ (rs.map (cutIf y (ks.take k))).drop (i + 1))) s26 s27
        obtain ⟨N31, s32, s33⟩ : ∃ N_, StarL rowA ((rs.map (cutIf y (ks.take k))).take i ++ (rs.map (cutIf y (ks.take k))).drop (i + 1)) N11 N_ ∧ Own 28 whyE N_ N28 (((rs.map (cutIf y (ks.take k))).getD i rowD0).a) (((rs.map (cutIf y (ks.take k))).getD i rowD0).c) (((rs.map (cutIf y (ks.take k))).getD i rowD0).ws.filter fun x => !sameW x y) := Ly.swap (Ly.own (E := whyE) 28 (((rs.map (cutIf y (ks.take k))).getD i rowD0).a) (((rs.map (cutIf y (ks.take k))).getD i rowD0).c) (((rs.map (cutIf y (ks.take k))).getD i rowD0).ws.filter fun x => !sameW x y)) (Ly.starL Ly.rowA ((rs.map (cutIf y (ks.take k))).take i ++ (rs.map (cutIf y (ks.take k))).drop (i + 1))) s23 s29
        obtain ⟨N34, s35, s36⟩ : ∃ N_, Blk (((rs.map (cutIf y (ks.take k))).getD i rowD0).p) (.cells #[(.bool (((rs.map (cutIf y (ks.take k))).getD i rowD0).free)), (.slice (((rs.map (cutIf y (ks.take k))).getD i rowD0).a) ((((rs.map (cutIf y (ks.take k))).getD i rowD0).ws.filter fun x => !sameW x y).length) (((rs.map (cutIf y (ks.take k))).getD i rowD0).c))] 58 (0, 0)) N31 N_ ∧ Own 28 whyE N_ M19 (((rs.map (cutIf y (ks.take k))).getD i rowD0).a) (((rs.map (cutIf y (ks.take k))).getD i rowD0).c) (((rs.map (cutIf y (ks.take k))).getD i rowD0).ws.filter fun x => !sameW x y) := Ly.swap (Ly.own (E := whyE) 28 (((rs.map (cutIf y (ks.take k))).getD i rowD0).a) (((rs.map (cutIf y (ks.take k))).getD i rowD0).c) (((rs.map (cutIf y (ks.take k))).getD i rowD0).ws.filter fun x => !sameW x y)) (Ly.blk (((rs.map (cutIf y (ks.take k))).getD i rowD0).p) (.cells #[(.bool (((rs.map (cutIf y (ks.take k))).getD i rowD0).free)), (.slice (((rs.map (cutIf y (ks.take k))).getD i rowD0).a) ((((rs.map (cutIf y (ks.take k))).getD i rowD0).ws.filter fun x => !sameW x y).length) (((rs.map (cutIf y (ks.take k))).getD i rowD0).c))] 58 (0, 0))) s33 s30
        have Rn := StarL.putAt Ly.rowA hi s32 (show rowA (cutR y ((rs.map (cutIf y (ks.take k))).getD i rowD0)) _ _ from ⟨_, s35, s36⟩)
        obtain ⟨N37, s38, s39⟩ : ∃ N_, Blk bm (.map esbm5 ckbm5) M0 N_ ∧ Blk t (.cells #[.map (some bm), (.slice ca came.length cc)] 53 (0, 0)) N_ M1_5 := Ly.swap (Ly.blk t (.cells #[.map (some bm), (.slice ca came.length cc)] 53 (0, 0))) (Ly.blk bm (.map esbm5 ckbm5)) o_t5 Bbm5
        obtain ⟨N40, s41, s42⟩ : ∃ N_, Own 28 whyE N37 N_ ca cc came ∧ Blk t (.cells #[.map (some bm), (.slice ca came.length cc)] 53 (0, 0)) N_ N8 := Ly.swap (Ly.blk t (.cells #[.map (some bm), (.slice ca came.length cc)] 53 (0, 0))) (Ly.own (E := whyE) 28 ca cc came) s39 s9
        obtain ⟨N43, s44, s45⟩ : ∃ N_, Own 3 intE N40 N_ ao co os ∧ Blk t (.cells #[.map (some bm), (.slice ca came.length cc)] 53 (0, 0)) N_ N11 := Ly.swap (Ly.blk t (.cells #[.map (some bm), (.slice ca came.length cc)] 53 (0, 0))) (Ly.own (E := intE) 3 ao co os) s42 s12
        obtain ⟨N46, s47, s48⟩ : ∃ N_, StarL rowA ((rs.map (cutIf y (ks.take k))).set i (cutR y ((rs.map (cutIf y (ks.take k))).getD i rowD0))) N43 N_ ∧ Blk t (.cells #[.map (some bm), (.slice ca came.length cc)] 53 (0, 0)) N_ M19 := Ly.swap (Ly.blk t (.cells #[.map (some bm), (.slice ca came.length cc)] 53 (0, 0))) (Ly.starL Ly.rowA ((rs.map (cutIf y (ks.take k))).set i (cutR y ((rs.map (cutIf y (ks.take k))).getD i rowD0)))) s45 Rn
        obtain ⟨N49, s50, s51⟩ : ∃ N_, Own 28 whyE M0 N_ ca cc came ∧ Blk bm (.map esbm5 ckbm5) N_ N40 := Ly.swap (Ly.blk bm (.map esbm5 ckbm5)) (Ly.own (E := whyE) 28 ca cc came) s38 s41
        obtain ⟨N52, s53, s54⟩ : ∃ N_, Own 3 intE N49 N_ ao co os ∧ Blk bm (.map esbm5 ckbm5) N_ N43 := Ly.swap (Ly.blk bm (.map esbm5 ckbm5)) (Ly.own (E := intE) 3 ao co os) s51 s44
        obtain ⟨N55, s56, s57⟩ : ∃ N_, StarL rowA ((rs.map (cutIf y (ks.take k))).set i (cutR y ((rs.map (cutIf y (ks.take k))).getD i rowD0))) N52 N_ ∧ Blk bm (.map esbm5 ckbm5) N_ N46 := Ly.swap (Ly.blk bm (.map esbm5 ckbm5)) (Ly.starL Ly.rowA ((rs.map (cutIf y (ks.take k))).set i (cutR y ((rs.map (cutIf y (ks.take k))).getD i rowD0)))) s54 s47
        obtain ⟨N58, s59, s60⟩ : ∃ N_, Blk t (.cells #[.map (some bm), (.slice ca came.length cc)] 53 (0, 0)) N55 N_ ∧ Blk bm (.map esbm5 ckbm5) N_ M19 := Ly.swap (Ly.blk bm (.map esbm5 ckbm5)) (Ly.blk t (.cells #[.map (some bm), (.slice ca came.length cc)] 53 (0, 0))) s57 s48
        obtain ⟨N61, s62, s63⟩ : ∃ N_, Blk t (.cells #[.map (some bm), (.slice ca came.length cc)] 53 (0, 0)) N52 N_ ∧ StarL rowA ((rs.map (cutIf y (ks.take k))).set i (cutR y ((rs.map (cutIf y (ks.take k))).getD i rowD0))) N_ N58 := Ly.swap (Ly.starL Ly.rowA ((rs.map (cutIf y (ks.take k))).set i (cutR y ((rs.map (cutIf y (ks.take k))).getD i rowD0)))) (Ly.blk t (.cells #[.map (some bm), (.slice ca came.length cc)] 53 (0, 0))) s56 s59
        obtain ⟨N64, s65, s66⟩ : ∃ N_, Blk bm (.map esbm5 ckbm5) N61 N_ ∧ StarL rowA ((rs.map (cutIf y (ks.take k))).set i (cutR y ((rs.map (cutIf y (ks.take k))).getD i rowD0))) N_ M19 := Ly.swap (Ly.starL Ly.rowA ((rs.map (cutIf y (ks.take k))).set i (cutR y ((rs.map (cutIf y (ks.take k))).getD i rowD0)))) (Ly.blk bm (.map esbm5 ckbm5)) s63 s60
        have mn : MapIs (.int .i64) intK esbm5 ckbm5 (((rs.map (cutIf y (ks.take k))).set i (cutR y ((rs.map (cutIf y (ks.take k))).getD i rowD0))).map rowEnt) := (map_ent_set (r := cutR y ((rs.map (cutIf y (ks.take k))).getD i rowD0)) rfl rfl).symm ▸ mbm5
        refine WL.call (by kernel_rfl) rfl (by kernel_rfl) (by kernel_rfl) (stands_at G19 ⟨_, _, _, _, _, s62, s65, s66, mn⟩ (PH.le_refl _) (by rw [map_fact_set (r := cutR y ((rs.map (cutIf y (ks.take k))).getD i rowD0)) rfl]; exact hnd) (k := i) (by rw [List.length_set]; exact hi) (f := (ks.getD k intE.dflt)) (by rw [getD_set hi]; exact hif) (getD_set hi _)) (Ret.elim ?_)
        rintro w67 h67 _ l67 G67 rfl
        refine WL.q (.bool (!(standsR (cutR y ((rs.map (cutIf y (ks.take k))).getD i rowD0))))) (by kernel_rfl) rfl (by kernel_rfl) (by kernel_rfl) ?_
        refine WL.q (.bool (!(standsR (cutR y ((rs.map (cutIf y (ks.take k))).getD i rowD0))))) (by kernel_rfl) rfl (by kernel_rfl) (by kernel_rfl) ?_
        refine WL.nil ?_
        refine EX.then_code ?_
        refine CW.cond (!(standsR (cutR y ((rs.map (cutIf y (ks.take k))).getD i rowD0)))) (by kernel_rfl) (by kernel_rfl) (fun c68 => ?_) (fun c68 => ?_)
        ·
          skip
          have d69 := not_true c68
          refine CW.region ?_
          refine WL.q (.slice ao os.length co) (by kernel_rfl) rfl (by kernel_rfl) (by kernel_rfl) ?_
          refine WL.q (.int .i64 (ks.getD k intE.dflt)) (by kernel_rfl) rfl (by kernel_rfl) (by kernel_rfl) ?_
          refine WL.ex (by kernel_rfl) rfl (by kernel_rfl) (q_newF (ob := (.cells #[(.int .i64 (ks.getD k intE.dflt))] 3 (0, 0))) G67 (fun b_ => .slice (some ⟨b_, 0, none⟩) 1 1) (fun u_ => by kernel_rfl)) ?_
          rintro _ w71 ⟨b71, h71, rfl, l71, G71, hb71, L71⟩
          have r72 : RS h71 intE (some ⟨b71, 0, none⟩) [(ks.getD k intE.dflt)] := RS.blk hb71 (by kernel_rfl)
          obtain ⟨N73, s74, s75⟩ : ∃ N_, Blk t (.cells #[.map (some bm), (.slice ca came.length cc)] 53 (0, 0)) N49 N_ ∧ Own 3 intE N_ N61 ao co os := Ly.swap (Ly.own (E := intE) 3 ao co os) (Ly.blk t (.cells #[.map (some bm), (.slice ca came.length cc)] 53 (0, 0))) s53 s62
          obtain ⟨N76, s77, s78⟩ : ∃ N_, Blk bm (.map esbm5 ckbm5) N73 N_ ∧ Own 3 intE N_ N64 ao co os := Ly.swap (Ly.own (E := intE) 3 ao co os) (Ly.blk bm (.map esbm5 ckbm5)) s75 s65
          obtain ⟨N79, s80, s81⟩ : ∃ N_, StarL rowA ((rs.map (cutIf y (ks.take k))).set i (cutR y ((rs.map (cutIf y (ks.take k))).getD i rowD0))) N76 N_ ∧ Own 3 intE N_ M19 ao co os := Ly.swap (Ly.own (E := intE) 3 ao co os) (Ly.starL Ly.rowA ((rs.map (cutIf y (ks.take k))).set i (cutR y ((rs.map (cutIf y (ks.take k))).getD i rowD0)))) s78 s66
          refine WL.ex (by kernel_rfl) rfl (by kernel_rfl) (q_app (e := 3) (bytes := 8) (cap := co) (c2 := 1) (M0 := N79) (xs := os) (ys := ([(ks.getD k intE.dflt)])) G71 s81 (r72.mono ((PH.le_refl _).trans G71.imm)) rfl (by kernel_rfl) (by kernel_rfl) (by kernel_rfl) (by first | (simp only [maxLen, List.length_append, List.length_cons, List.length_nil]; omega) | (simp only [maxLen]; omega)) (by first | omega | (simp only [List.length_append, List.length_cons, List.length_nil]; omega))) ?_
          rintro _ w82 ⟨a82, k82, M82, rfl, G82, o82, z82⟩
          refine WL.q (.slice a82 ((os ++ ([(ks.getD k intE.dflt)])).length) k82) (by kernel_rfl) rfl (by kernel_rfl) (by kernel_rfl) ?_
          refine WL.nil ?_
          refine EX.in_block ?_
          refine EX.then_code ?_
          refine CW.region ?_
          refine WL.q (.int .i64 ((k + 1 : Nat) : Int)) (by kernel_rfl) rfl (by kernel_rfl) (q_int (x := IntKind.i64.wrap ((k : Int) + 1)) (by kernel_rfl) (wrap_to (by omega) (by omega) (by omega))) ?_
          refine WL.q (.int .i64 ((k + 1 : Nat) : Int)) (by kernel_rfl) rfl (by kernel_rfl) (by kernel_rfl) ?_
          refine WL.nil ?_
          have hst := cut_set (y := y) ok.nodup (by omega) hi2 hif2
          have hcn := cut_not (y := y) hkn (by omega) hi2 hif2
          have hla := lost_at (y := y) ok.nodup hi2 hif2
          have hlv : lostF rs y (ks.getD k 0) = true := by rw [hla, ← hcn]; unfold cutR; simp only [cutR] at *; first | (simp [*]; done) | (simp_all; done)
          obtain ⟨N83, s84, s85⟩ : ∃ N_, Blk bm (.map esbm5 ckbm5) N49 N_ ∧ Blk t (.cells #[.map (some bm), (.slice ca came.length cc)] 53 (0, 0)) N_ N76 := Ly.swap (Ly.blk t (.cells #[.map (some bm), (.slice ca came.length cc)] 53 (0, 0))) (Ly.blk bm (.map esbm5 ckbm5)) s74 s77
          obtain ⟨N86, s87, s88⟩ : ∃ N_, StarL rowA ((rs.map (cutIf y (ks.take k))).set i (cutR y ((rs.map (cutIf y (ks.take k))).getD i rowD0))) N83 N_ ∧ Blk t (.cells #[.map (some bm), (.slice ca came.length cc)] 53 (0, 0)) N_ N79 := Ly.swap (Ly.blk t (.cells #[.map (some bm), (.slice ca came.length cc)] 53 (0, 0))) (Ly.starL Ly.rowA ((rs.map (cutIf y (ks.take k))).set i (cutR y ((rs.map (cutIf y (ks.take k))).getD i rowD0)))) s85 s80
          obtain ⟨N89, s90, s91⟩ : ∃ N_, Own 3 intE N86 N_ a82 k82 (os ++ ([(ks.getD k intE.dflt)])) ∧ Blk t (.cells #[.map (some bm), (.slice ca came.length cc)] 53 (0, 0)) N_ M82 := Ly.swap (Ly.blk t (.cells #[.map (some bm), (.slice ca came.length cc)] 53 (0, 0))) (Ly.own (E := intE) 3 a82 k82 (os ++ ([(ks.getD k intE.dflt)]))) s88 o82
          obtain ⟨N92, s93, s94⟩ : ∃ N_, StarL rowA ((rs.map (cutIf y (ks.take k))).set i (cutR y ((rs.map (cutIf y (ks.take k))).getD i rowD0))) N49 N_ ∧ Blk bm (.map esbm5 ckbm5) N_ N86 := Ly.swap (Ly.blk bm (.map esbm5 ckbm5)) (Ly.starL Ly.rowA ((rs.map (cutIf y (ks.take k))).set i (cutR y ((rs.map (cutIf y (ks.take k))).getD i rowD0)))) s84 s87
          obtain ⟨N95, s96, s97⟩ : ∃ N_, Own 3 intE N92 N_ a82 k82 (os ++ ([(ks.getD k intE.dflt)])) ∧ Blk bm (.map esbm5 ckbm5) N_ N89 := Ly.swap (Ly.blk bm (.map esbm5 ckbm5)) (Ly.own (E := intE) 3 a82 k82 (os ++ ([(ks.getD k intE.dflt)]))) s94 s90
          obtain ⟨N98, s99, s100⟩ : ∃ N_, Blk t (.cells #[.map (some bm), (.slice ca came.length cc)] 53 (0, 0)) N95 N_ ∧ Blk bm (.map esbm5 ckbm5) N_ M82 := Ly.swap (Ly.blk bm (.map esbm5 ckbm5)) (Ly.blk t (.cells #[.map (some bm), (.slice ca came.length cc)] 53 (0, 0))) s97 s91
          obtain ⟨N101, s102, s103⟩ : ∃ N_, Own 3 intE N49 N_ a82 k82 (os ++ ([(ks.getD k intE.dflt)])) ∧ StarL rowA ((rs.map (cutIf y (ks.take k))).set i (cutR y ((rs.map (cutIf y (ks.take k))).getD i rowD0))) N_ N95 := Ly.swap (Ly.starL Ly.rowA ((rs.map (cutIf y (ks.take k))).set i (cutR y ((rs.map (cutIf y (ks.take k))).getD i rowD0)))) (Ly.own (E := intE) 3 a82 k82 (os ++ ([(ks.getD k intE.dflt)]))) s93 s96
          obtain ⟨N104, s105, s106⟩ : ∃ N_, Blk t (.cells #[.map (some bm), (.slice ca came.length cc)] 53 (0, 0)) N101 N_ ∧ StarL rowA ((rs.map (cutIf y (ks.take k))).set i (cutR y ((rs.map (cutIf y (ks.take k))).getD i rowD0))) N_ N98 := Ly.swap (Ly.starL Ly.rowA ((rs.map (cutIf y (ks.take k))).set i (cutR y ((rs.map (cutIf y (ks.take k))).getD i rowD0)))) (Ly.blk t (.cells #[.map (some bm), (.slice ca came.length cc)] 53 (0, 0))) s103 s99
          obtain ⟨N107, s108, s109⟩ : ∃ N_, Blk bm (.map esbm5 ckbm5) N104 N_ ∧ StarL rowA ((rs.map (cutIf y (ks.take k))).set i (cutR y ((rs.map (cutIf y (ks.take k))).getD i rowD0))) N_ M82 := Ly.swap (Ly.starL Ly.rowA ((rs.map (cutIf y (ks.take k))).set i (cutR y ((rs.map (cutIf y (ks.take k))).getD i rowD0)))) (Ly.blk bm (.map esbm5 ckbm5)) s106 s100
          obtain ⟨N110, s111, s112⟩ : ∃ N_, Own 3 intE M0 N_ a82 k82 (os ++ ([(ks.getD k intE.dflt)])) ∧ Own 28 whyE N_ N101 ca cc came := Ly.swap (Ly.own (E := whyE) 28 ca cc came) (Ly.own (E := intE) 3 a82 k82 (os ++ ([(ks.getD k intE.dflt)]))) s50 s102
          obtain ⟨N113, s114, s115⟩ : ∃ N_, Blk t (.cells #[.map (some bm), (.slice ca came.length cc)] 53 (0, 0)) N110 N_ ∧ Own 28 whyE N_ N104 ca cc came := Ly.swap (Ly.own (E := whyE) 28 ca cc came) (Ly.blk t (.cells #[.map (some bm), (.slice ca came.length cc)] 53 (0, 0))) s112 s105
          obtain ⟨N116, s117, s118⟩ : ∃ N_, Blk bm (.map esbm5 ckbm5) N113 N_ ∧ Own 28 whyE N_ N107 ca cc came := Ly.swap (Ly.own (E := whyE) 28 ca cc came) (Ly.blk bm (.map esbm5 ckbm5)) s115 s108
          obtain ⟨N119, s120, s121⟩ : ∃ N_, StarL rowA ((rs.map (cutIf y (ks.take k))).set i (cutR y ((rs.map (cutIf y (ks.take k))).getD i rowD0))) N116 N_ ∧ Own 28 whyE N_ M82 ca cc came := Ly.swap (Ly.own (E := whyE) 28 ca cc came) (Ly.starL Ly.rowA ((rs.map (cutIf y (ks.take k))).set i (cutR y ((rs.map (cutIf y (ks.take k))).getD i rowD0)))) s118 s109
          obtain ⟨N122, s123, s124⟩ : ∃ N_, Blk t (.cells #[.map (some bm), (.slice ca came.length cc)] 53 (0, 0)) M0 N_ ∧ Own 3 intE N_ N113 a82 k82 (os ++ ([(ks.getD k intE.dflt)])) := Ly.swap (Ly.own (E := intE) 3 a82 k82 (os ++ ([(ks.getD k intE.dflt)]))) (Ly.blk t (.cells #[.map (some bm), (.slice ca came.length cc)] 53 (0, 0))) s111 s114
          obtain ⟨N125, s126, s127⟩ : ∃ N_, Blk bm (.map esbm5 ckbm5) N122 N_ ∧ Own 3 intE N_ N116 a82 k82 (os ++ ([(ks.getD k intE.dflt)])) := Ly.swap (Ly.own (E := intE) 3 a82 k82 (os ++ ([(ks.getD k intE.dflt)]))) (Ly.blk bm (.map esbm5 ckbm5)) s124 s117
          obtain ⟨N128, s129, s130⟩ : ∃ N_, StarL rowA ((rs.map (cutIf y (ks.take k))).set i (cutR y ((rs.map (cutIf y (ks.take k))).getD i rowD0))) N125 N_ ∧ Own 3 intE N_ N119 a82 k82 (os ++ ([(ks.getD k intE.dflt)])) := Ly.swap (Ly.own (E := intE) 3 a82 k82 (os ++ ([(ks.getD k intE.dflt)]))) (Ly.starL Ly.rowA ((rs.map (cutIf y (ks.take k))).set i (cutR y ((rs.map (cutIf y (ks.take k))).getD i rowD0)))) s127 s120
          obtain ⟨N131, s132, s133⟩ : ∃ N_, Own 28 whyE N128 N_ ca cc came ∧ Own 3 intE N_ M82 a82 k82 (os ++ ([(ks.getD k intE.dflt)])) := Ly.swap (Ly.own (E := intE) 3 a82 k82 (os ++ ([(ks.getD k intE.dflt)]))) (Ly.own (E := whyE) 28 ca cc came) s130 s121
          exact EX.then_loop ⟨k + 1, (os ++ ([(ks.getD k intE.dflt)])), a82, k82⟩ ⟨(by kernel_rfl), (by kernel_rfl), (by kernel_rfl), (by kernel_rfl), (by kernel_rfl), (by kernel_rfl), (lk_int (x := ((k + 1 : Nat) : Int)) (by kernel_rfl) (by first | omega | (dsimp only; omega) | rfl | (dsimp only; rfl))), trivial⟩ ⟨h71, N122, N125, N128, N131, M82, ((((l5.trans l14).trans l15).trans l67).trans l71), G82, s123, ⟨_, _, s126, (((map_ent_set (r := cutR y ((rs.map (cutIf y (ks.take k))).getD i rowD0)) rfl rfl).symm.trans (congrArg (List.map rowEnt) hst)) ▸ mbm5)⟩, (hst ▸ s129), s132, s133, (all_up @whyG.mono (((l14.trans l15).trans l67).trans l71) g_came5), (by first | omega | assumption | (dsimp only [List.length_nil, List.length_append, List.length_cons]; omega)), (by rw [hos]; exact lost_succ (by omega) hlv), (by first | omega | (simp only [List.length_append, List.length_cons, List.length_nil]; omega))⟩ (by first | omega | (dsimp only; omega))
        ·
          skip
          have d134 := not_false c68
          refine CW.skip ?_
          refine EX.in_block ?_
          refine EX.then_code ?_
          refine CW.region ?_
          refine WL.q (.int .i64 ((k + 1 : Nat) : Int)) (by kernel_rfl) rfl (by kernel_rfl) (q_int (x := IntKind.i64.wrap ((k : Int) + 1)) (by kernel_rfl) (wrap_to (by omega) (by omega) (by omega))) ?_
          refine WL.q (.int .i64 ((k + 1 : Nat) : Int)) (by kernel_rfl) rfl (by kernel_rfl) (by kernel_rfl) ?_
          refine WL.nil ?_
          have hst := cut_set (y := y) ok.nodup (by omega) hi2 hif2
          have hcn := cut_not (y := y) hkn (by omega) hi2 hif2
          have hla := lost_at (y := y) ok.nodup hi2 hif2
          have hlv : lostF rs y (ks.getD k 0) = false := by rw [hla, ← hcn]; unfold cutR; simp only [cutR] at *; first | (simp [*]; done) | (simp_all; done)
          obtain ⟨N136, s137, s138⟩ : ∃ N_, Blk bm (.map esbm5 ckbm5) N52 N_ ∧ Blk t (.cells #[.map (some bm), (.slice ca came.length cc)] 53 (0, 0)) N_ N64 := Ly.swap (Ly.blk t (.cells #[.map (some bm), (.slice ca came.length cc)] 53 (0, 0))) (Ly.blk bm (.map esbm5 ckbm5)) s62 s65
          obtain ⟨N139, s140, s141⟩ : ∃ N_, StarL rowA ((rs.map (cutIf y (ks.take k))).set i (cutR y ((rs.map (cutIf y (ks.take k))).getD i rowD0))) N136 N_ ∧ Blk t (.cells #[.map (some bm), (.slice ca came.length cc)] 53 (0, 0)) N_ M19 := Ly.swap (Ly.blk t (.cells #[.map (some bm), (.slice ca came.length cc)] 53 (0, 0))) (Ly.starL Ly.rowA ((rs.map (cutIf y (ks.take k))).set i (cutR y ((rs.map (cutIf y (ks.take k))).getD i rowD0)))) s138 s66
          obtain ⟨N142, s143, s144⟩ : ∃ N_, StarL rowA ((rs.map (cutIf y (ks.take k))).set i (cutR y ((rs.map (cutIf y (ks.take k))).getD i rowD0))) N52 N_ ∧ Blk bm (.map esbm5 ckbm5) N_ N139 := Ly.swap (Ly.blk bm (.map esbm5 ckbm5)) (Ly.starL Ly.rowA ((rs.map (cutIf y (ks.take k))).set i (cutR y ((rs.map (cutIf y (ks.take k))).getD i rowD0)))) s137 s140
          obtain ⟨N145, s146, s147⟩ : ∃ N_, Blk t (.cells #[.map (some bm), (.slice ca came.length cc)] 53 (0, 0)) N142 N_ ∧ Blk bm (.map esbm5 ckbm5) N_ M19 := Ly.swap (Ly.blk bm (.map esbm5 ckbm5)) (Ly.blk t (.cells #[.map (some bm), (.slice ca came.length cc)] 53 (0, 0))) s144 s141
          obtain ⟨N148, s149, s150⟩ : ∃ N_, Blk t (.cells #[.map (some bm), (.slice ca came.length cc)] 53 (0, 0)) N52 N_ ∧ StarL rowA ((rs.map (cutIf y (ks.take k))).set i (cutR y ((rs.map (cutIf y (ks.take k))).getD i rowD0))) N_ N145 := Ly.swap (Ly.starL Ly.rowA ((rs.map (cutIf y (ks.take k))).set i (cutR y ((rs.map (cutIf y (ks.take k))).getD i rowD0)))) (Ly.blk t (.cells #[.map (some bm), (.slice ca came.length cc)] 53 (0, 0))) s143 s146
          obtain ⟨N151, s152, s153⟩ : ∃ N_, Blk bm (.map esbm5 ckbm5) N148 N_ ∧ StarL rowA ((rs.map (cutIf y (ks.take k))).set i (cutR y ((rs.map (cutIf y (ks.take k))).getD i rowD0))) N_ M19 := Ly.swap (Ly.starL Ly.rowA ((rs.map (cutIf y (ks.take k))).set i (cutR y ((rs.map (cutIf y (ks.take k))).getD i rowD0)))) (Ly.blk bm (.map esbm5 ckbm5)) s150 s147
          obtain ⟨N154, s155, s156⟩ : ∃ N_, Own 3 intE M0 N_ ao co os ∧ Own 28 whyE N_ N52 ca cc came := Ly.swap (Ly.own (E := whyE) 28 ca cc came) (Ly.own (E := intE) 3 ao co os) s50 s53
          obtain ⟨N157, s158, s159⟩ : ∃ N_, Blk t (.cells #[.map (some bm), (.slice ca came.length cc)] 53 (0, 0)) N154 N_ ∧ Own 28 whyE N_ N148 ca cc came := Ly.swap (Ly.own (E := whyE) 28 ca cc came) (Ly.blk t (.cells #[.map (some bm), (.slice ca came.length cc)] 53 (0, 0))) s156 s149
          obtain ⟨N160, s161, s162⟩ : ∃ N_, Blk bm (.map esbm5 ckbm5) N157 N_ ∧ Own 28 whyE N_ N151 ca cc came := Ly.swap (Ly.own (E := whyE) 28 ca cc came) (Ly.blk bm (.map esbm5 ckbm5)) s159 s152
          obtain ⟨N163, s164, s165⟩ : ∃ N_, StarL rowA ((rs.map (cutIf y (ks.take k))).set i (cutR y ((rs.map (cutIf y (ks.take k))).getD i rowD0))) N160 N_ ∧ Own 28 whyE N_ M19 ca cc came := Ly.swap (Ly.own (E := whyE) 28 ca cc came) (Ly.starL Ly.rowA ((rs.map (cutIf y (ks.take k))).set i (cutR y ((rs.map (cutIf y (ks.take k))).getD i rowD0)))) s162 s153
          obtain ⟨N166, s167, s168⟩ : ∃ N_, Blk t (.cells #[.map (some bm), (.slice ca came.length cc)] 53 (0, 0)) M0 N_ ∧ Own 3 intE N_ N157 ao co os := Ly.swap (Ly.own (E := intE) 3 ao co os) (Ly.blk t (.cells #[.map (some bm), (.slice ca came.length cc)] 53 (0, 0))) s155 s158
          obtain ⟨N169, s170, s171⟩ : ∃ N_, Blk bm (.map esbm5 ckbm5) N166 N_ ∧ Own 3 intE N_ N160 ao co os := Ly.swap (Ly.own (E := intE) 3 ao co os) (Ly.blk bm (.map esbm5 ckbm5)) s168 s161
          obtain ⟨N172, s173, s174⟩ : ∃ N_, StarL rowA ((rs.map (cutIf y (ks.take k))).set i (cutR y ((rs.map (cutIf y (ks.take k))).getD i rowD0))) N169 N_ ∧ Own 3 intE N_ N163 ao co os := Ly.swap (Ly.own (E := intE) 3 ao co os) (Ly.starL Ly.rowA ((rs.map (cutIf y (ks.take k))).set i (cutR y ((rs.map (cutIf y (ks.take k))).getD i rowD0)))) s171 s164
          obtain ⟨N175, s176, s177⟩ : ∃ N_, Own 28 whyE N172 N_ ca cc came ∧ Own 3 intE N_ M19 ao co os := Ly.swap (Ly.own (E := intE) 3 ao co os) (Ly.own (E := whyE) 28 ca cc came) s174 s165
          exact EX.then_loop ⟨k + 1, os, ao, co⟩ ⟨(by kernel_rfl), (by kernel_rfl), (by kernel_rfl), (by kernel_rfl), (by kernel_rfl), (by kernel_rfl), (lk_int (x := ((k + 1 : Nat) : Int)) (by kernel_rfl) (by first | omega | (dsimp only; omega) | rfl | (dsimp only; rfl))), trivial⟩ ⟨h67, N166, N169, N172, N175, M19, (((l5.trans l14).trans l15).trans l67), G67, s167, ⟨_, _, s170, (((map_ent_set (r := cutR y ((rs.map (cutIf y (ks.take k))).getD i rowD0)) rfl rfl).symm.trans (congrArg (List.map rowEnt) hst)) ▸ mbm5)⟩, (hst ▸ s173), s176, s177, (all_up @whyG.mono ((l14.trans l15).trans l67) g_came5), (by first | omega | assumption | (dsimp only [List.length_nil, List.length_append, List.length_cons]; omega)), (by rw [hos]; exact lost_skip (by omega) hlv), (by first | omega | (simp only [List.length_append, List.length_cons, List.length_nil]; omega))⟩ (by first | omega | (dsimp only; omega))
      ·
        skip
        have d178 := of_decide_eq_false c20
        refine WL.know 49 (.bool false) (x := .bool (decide (((((rs.map (cutIf y (ks.take k))).getD i rowD0).ws.filter fun x => !sameW x y).length : Int) < (((rs.map (cutIf y (ks.take k))).getD i rowD0).ws.length : Int)))) (by kernel_rfl) (congrArg Value.bool c20) ?_
        refine WL.skip (by kernel_rfl) rfl (by kernel_rfl) ?_
        refine WL.skip (by kernel_rfl) rfl (by kernel_rfl) ?_
        refine WL.skip (by kernel_rfl) rfl (by kernel_rfl) ?_
        refine WL.skip (by kernel_rfl) rfl (by kernel_rfl) ?_
        refine WL.q (.bool false) (by kernel_rfl) rfl (by kernel_rfl) (by kernel_rfl) ?_
        refine WL.nil ?_
        refine EX.then_code ?_
        refine CW.cond_f (by kernel_rfl) (by kernel_rfl) ?_
        refine CW.skip ?_
        refine EX.in_block ?_
        refine EX.then_code ?_
        refine CW.region ?_
        refine WL.q (.int .i64 ((k + 1 : Nat) : Int)) (by kernel_rfl) rfl (by kernel_rfl) (q_int (x := IntKind.i64.wrap ((k : Int) + 1)) (by kernel_rfl) (wrap_to (by omega) (by omega) (by omega))) ?_
        refine WL.q (.int .i64 ((k + 1 : Nat) : Int)) (by kernel_rfl) rfl (by kernel_rfl) (by kernel_rfl) ?_
        refine WL.nil ?_
        obtain ⟨N179, s180, s181⟩ : ∃ N_, Own 28 whyE N11 N_ (((rs.map (cutIf y (ks.take k))).getD i rowD0).a) (((rs.map (cutIf y (ks.take k))).getD i rowD0).c) (((rs.map (cutIf y (ks.take k))).getD i rowD0).ws.filter fun x => !sameW x y) ∧ StarL rowA ((rs.map (cutIf y (ks.take k))).take i ++ (rs.map (cutIf y (ks.take k))).drop (i + 1)) N_ N16 := Ly.swap (Ly.starL Ly.rowA ((rs.map (cutIf y (ks.take k))).take i ++ (rs.map (cutIf y (ks.take k))).drop (i + 1))) (Ly.own (E := whyE) 28 (((rs.map (cutIf y (ks.take k))).getD i rowD0).a) (((rs.map (cutIf y (ks.take k))).getD i rowD0).c) (((rs.map (cutIf y (ks.take k))).getD i rowD0).ws.filter fun x => !sameW x y)) Rest s17
        obtain ⟨N182, s183, s184⟩ : ∃ N_, Blk (((rs.map (cutIf y (ks.take k))).getD i rowD0).p) (.cells #[(.bool (((rs.map (cutIf y (ks.take k))).getD i rowD0).free)), (.slice (((rs.map (cutIf y (ks.take k))).getD i rowD0).a) ((((rs.map (cutIf y (ks.take k))).getD i rowD0).ws.filter fun x => !sameW x y).length) (((rs.map (cutIf y (ks.take k))).getD i rowD0).c))] 58 (0, 0)) N179 N_ ∧ StarL rowA ((rs.map (cutIf y (ks.take k))).take i ++ (rs.map (cutIf y (ks.take k))).drop (i + 1)) N_ M19 := Ly.swap (Ly.starL Ly.rowA ((rs.map (cutIf y (ks.take k))).take i ++ (rs.map (cutIf y (ks.take k))).drop (i + 1))) (Ly.blk (((rs.map (cutIf y (ks.take k))).getD i rowD0).p) (.cells #[(.bool (((rs.map (cutIf y (ks.take k))).getD i rowD0).free)), (.slice (((rs.map (cutIf y (ks.take k))).getD i rowD0).a) ((((rs.map (cutIf y (ks.take k))).getD i rowD0).ws.filter fun x => !sameW x y).length) (((rs.map (cutIf y (ks.take k))).getD i rowD0).c))] 58 (0, 0))) s181 B19
        obtain ⟨N185, s186, s187⟩ : ∃ N_, StarL rowA ((rs.map (cutIf y (ks.take k))).take i ++ (rs.map (cutIf y (ks.take k))).drop (i + 1)) N179 N_ ∧ Blk (((rs.map (cutIf y (ks.take k))).getD i rowD0).p) (.cells #[(.bool (((rs.map (cutIf y (ks.take k))).getD i rowD0).free)), (.slice (((rs.map (cutIf y (ks.take k))).getD i rowD0).a) ((((rs.map (cutIf y (ks.take k))).getD i rowD0).ws.filter fun x => !sameW x y).length) (((rs.map (cutIf y (ks.take k))).getD i rowD0).c))] 58 (0, 0)) N_ M19 := Ly.swap (Ly.blk (((rs.map (cutIf y (ks.take k))).getD i rowD0).p) (.cells #[(.bool (((rs.map (cutIf y (ks.take k))).getD i rowD0).free)), (.slice (((rs.map (cutIf y (ks.take k))).getD i rowD0).a) ((((rs.map (cutIf y (ks.take k))).getD i rowD0).ws.filter fun x => !sameW x y).length) (((rs.map (cutIf y (ks.take k))).getD i rowD0).c))] 58 (0, 0))) (Ly.starL Ly.rowA ((rs.map (cutIf y (ks.take k))).take i ++ (rs.map (cutIf y (ks.take k))).drop (i + 1))) s183 s184
        obtain ⟨N188, s189, s190⟩ : ∃ N_, StarL rowA ((rs.map (cutIf y (ks.take k))).take i ++ (rs.map (cutIf y (ks.take k))).drop (i + 1)) N11 N_ ∧ Own 28 whyE N_ N185 (((rs.map (cutIf y (ks.take k))).getD i rowD0).a) (((rs.map (cutIf y (ks.take k))).getD i rowD0).c) (((rs.map (cutIf y (ks.take k))).getD i rowD0).ws.filter fun x => !sameW x y) := Ly.swap (Ly.own (E := whyE) 28 (((rs.map (cutIf y (ks.take k))).getD i rowD0).a) (((rs.map (cutIf y (ks.take k))).getD i rowD0).c) (((rs.map (cutIf y (ks.take k))).getD i rowD0).ws.filter fun x => !sameW x y)) (Ly.starL Ly.rowA ((rs.map (cutIf y (ks.take k))).take i ++ (rs.map (cutIf y (ks.take k))).drop (i + 1))) s180 s186
        obtain ⟨N191, s192, s193⟩ : ∃ N_, Blk (((rs.map (cutIf y (ks.take k))).getD i rowD0).p) (.cells #[(.bool (((rs.map (cutIf y (ks.take k))).getD i rowD0).free)), (.slice (((rs.map (cutIf y (ks.take k))).getD i rowD0).a) ((((rs.map (cutIf y (ks.take k))).getD i rowD0).ws.filter fun x => !sameW x y).length) (((rs.map (cutIf y (ks.take k))).getD i rowD0).c))] 58 (0, 0)) N188 N_ ∧ Own 28 whyE N_ M19 (((rs.map (cutIf y (ks.take k))).getD i rowD0).a) (((rs.map (cutIf y (ks.take k))).getD i rowD0).c) (((rs.map (cutIf y (ks.take k))).getD i rowD0).ws.filter fun x => !sameW x y) := Ly.swap (Ly.own (E := whyE) 28 (((rs.map (cutIf y (ks.take k))).getD i rowD0).a) (((rs.map (cutIf y (ks.take k))).getD i rowD0).c) (((rs.map (cutIf y (ks.take k))).getD i rowD0).ws.filter fun x => !sameW x y)) (Ly.blk (((rs.map (cutIf y (ks.take k))).getD i rowD0).p) (.cells #[(.bool (((rs.map (cutIf y (ks.take k))).getD i rowD0).free)), (.slice (((rs.map (cutIf y (ks.take k))).getD i rowD0).a) ((((rs.map (cutIf y (ks.take k))).getD i rowD0).ws.filter fun x => !sameW x y).length) (((rs.map (cutIf y (ks.take k))).getD i rowD0).c))] 58 (0, 0))) s190 s187
        have Rn := StarL.putAt Ly.rowA hi s189 (show rowA (cutR y ((rs.map (cutIf y (ks.take k))).getD i rowD0)) _ _ from ⟨_, s192, s193⟩)
        have hst := cut_set (y := y) ok.nodup (by omega) hi2 hif2
        have hcn := cut_not (y := y) hkn (by omega) hi2 hif2
        have hla := lost_at (y := y) ok.nodup hi2 hif2
        have hlv : lostF rs y (ks.getD k 0) = false := by rw [hla, ← hcn]; unfold cutR; simp only [cutR] at *; first | (simp [*]; done) | (simp_all; done)
        obtain ⟨N194, s195, s196⟩ : ∃ N_, Blk bm (.map esbm5 ckbm5) M0 N_ ∧ Blk t (.cells #[.map (some bm), (.slice ca came.length cc)] 53 (0, 0)) N_ M1_5 := Ly.swap (Ly.blk t (.cells #[.map (some bm), (.slice ca came.length cc)] 53 (0, 0))) (Ly.blk bm (.map esbm5 ckbm5)) o_t5 Bbm5
        obtain ⟨N197, s198, s199⟩ : ∃ N_, Own 28 whyE N194 N_ ca cc came ∧ Blk t (.cells #[.map (some bm), (.slice ca came.length cc)] 53 (0, 0)) N_ N8 := Ly.swap (Ly.blk t (.cells #[.map (some bm), (.slice ca came.length cc)] 53 (0, 0))) (Ly.own (E := whyE) 28 ca cc came) s196 s9
        obtain ⟨N200, s201, s202⟩ : ∃ N_, Own 3 intE N197 N_ ao co os ∧ Blk t (.cells #[.map (some bm), (.slice ca came.length cc)] 53 (0, 0)) N_ N11 := Ly.swap (Ly.blk t (.cells #[.map (some bm), (.slice ca came.length cc)] 53 (0, 0))) (Ly.own (E := intE) 3 ao co os) s199 s12
        obtain ⟨N203, s204, s205⟩ : ∃ N_, StarL rowA ((rs.map (cutIf y (ks.take k))).set i (cutR y ((rs.map (cutIf y (ks.take k))).getD i rowD0))) N200 N_ ∧ Blk t (.cells #[.map (some bm), (.slice ca came.length cc)] 53 (0, 0)) N_ M19 := Ly.swap (Ly.blk t (.cells #[.map (some bm), (.slice ca came.length cc)] 53 (0, 0))) (Ly.starL Ly.rowA ((rs.map (cutIf y (ks.take k))).set i (cutR y ((rs.map (cutIf y (ks.take k))).getD i rowD0)))) s202 Rn
        obtain ⟨N206, s207, s208⟩ : ∃ N_, Own 28 whyE M0 N_ ca cc came ∧ Blk bm (.map esbm5 ckbm5) N_ N197 := Ly.swap (Ly.blk bm (.map esbm5 ckbm5)) (Ly.own (E := whyE) 28 ca cc came) s195 s198
        obtain ⟨N209, s210, s211⟩ : ∃ N_, Own 3 intE N206 N_ ao co os ∧ Blk bm (.map esbm5 ckbm5) N_ N200 := Ly.swap (Ly.blk bm (.map esbm5 ckbm5)) (Ly.own (E := intE) 3 ao co os) s208 s201
        obtain ⟨N212, s213, s214⟩ : ∃ N_, StarL rowA ((rs.map (cutIf y (ks.take k))).set i (cutR y ((rs.map (cutIf y (ks.take k))).getD i rowD0))) N209 N_ ∧ Blk bm (.map esbm5 ckbm5) N_ N203 := Ly.swap (Ly.blk bm (.map esbm5 ckbm5)) (Ly.starL Ly.rowA ((rs.map (cutIf y (ks.take k))).set i (cutR y ((rs.map (cutIf y (ks.take k))).getD i rowD0)))) s211 s204
        obtain ⟨N215, s216, s217⟩ : ∃ N_, Blk t (.cells #[.map (some bm), (.slice ca came.length cc)] 53 (0, 0)) N212 N_ ∧ Blk bm (.map esbm5 ckbm5) N_ M19 := Ly.swap (Ly.blk bm (.map esbm5 ckbm5)) (Ly.blk t (.cells #[.map (some bm), (.slice ca came.length cc)] 53 (0, 0))) s214 s205
        obtain ⟨N218, s219, s220⟩ : ∃ N_, Blk t (.cells #[.map (some bm), (.slice ca came.length cc)] 53 (0, 0)) N209 N_ ∧ StarL rowA ((rs.map (cutIf y (ks.take k))).set i (cutR y ((rs.map (cutIf y (ks.take k))).getD i rowD0))) N_ N215 := Ly.swap (Ly.starL Ly.rowA ((rs.map (cutIf y (ks.take k))).set i (cutR y ((rs.map (cutIf y (ks.take k))).getD i rowD0)))) (Ly.blk t (.cells #[.map (some bm), (.slice ca came.length cc)] 53 (0, 0))) s213 s216
        obtain ⟨N221, s222, s223⟩ : ∃ N_, Blk bm (.map esbm5 ckbm5) N218 N_ ∧ StarL rowA ((rs.map (cutIf y (ks.take k))).set i (cutR y ((rs.map (cutIf y (ks.take k))).getD i rowD0))) N_ M19 := Ly.swap (Ly.starL Ly.rowA ((rs.map (cutIf y (ks.take k))).set i (cutR y ((rs.map (cutIf y (ks.take k))).getD i rowD0)))) (Ly.blk bm (.map esbm5 ckbm5)) s220 s217
        obtain ⟨N224, s225, s226⟩ : ∃ N_, Own 3 intE M0 N_ ao co os ∧ Own 28 whyE N_ N209 ca cc came := Ly.swap (Ly.own (E := whyE) 28 ca cc came) (Ly.own (E := intE) 3 ao co os) s207 s210
        obtain ⟨N227, s228, s229⟩ : ∃ N_, Blk t (.cells #[.map (some bm), (.slice ca came.length cc)] 53 (0, 0)) N224 N_ ∧ Own 28 whyE N_ N218 ca cc came := Ly.swap (Ly.own (E := whyE) 28 ca cc came) (Ly.blk t (.cells #[.map (some bm), (.slice ca came.length cc)] 53 (0, 0))) s226 s219
        obtain ⟨N230, s231, s232⟩ : ∃ N_, Blk bm (.map esbm5 ckbm5) N227 N_ ∧ Own 28 whyE N_ N221 ca cc came := Ly.swap (Ly.own (E := whyE) 28 ca cc came) (Ly.blk bm (.map esbm5 ckbm5)) s229 s222
        obtain ⟨N233, s234, s235⟩ : ∃ N_, StarL rowA ((rs.map (cutIf y (ks.take k))).set i (cutR y ((rs.map (cutIf y (ks.take k))).getD i rowD0))) N230 N_ ∧ Own 28 whyE N_ M19 ca cc came := Ly.swap (Ly.own (E := whyE) 28 ca cc came) (Ly.starL Ly.rowA ((rs.map (cutIf y (ks.take k))).set i (cutR y ((rs.map (cutIf y (ks.take k))).getD i rowD0)))) s232 s223
        obtain ⟨N236, s237, s238⟩ : ∃ N_, Blk t (.cells #[.map (some bm), (.slice ca came.length cc)] 53 (0, 0)) M0 N_ ∧ Own 3 intE N_ N227 ao co os := Ly.swap (Ly.own (E := intE) 3 ao co os) (Ly.blk t (.cells #[.map (some bm), (.slice ca came.length cc)] 53 (0, 0))) s225 s228
        obtain ⟨N239, s240, s241⟩ : ∃ N_, Blk bm (.map esbm5 ckbm5) N236 N_ ∧ Own 3 intE N_ N230 ao co os := Ly.swap (Ly.own (E := intE) 3 ao co os) (Ly.blk bm (.map esbm5 ckbm5)) s238 s231
        obtain ⟨N242, s243, s244⟩ : ∃ N_, StarL rowA ((rs.map (cutIf y (ks.take k))).set i (cutR y ((rs.map (cutIf y (ks.take k))).getD i rowD0))) N239 N_ ∧ Own 3 intE N_ N233 ao co os := Ly.swap (Ly.own (E := intE) 3 ao co os) (Ly.starL Ly.rowA ((rs.map (cutIf y (ks.take k))).set i (cutR y ((rs.map (cutIf y (ks.take k))).getD i rowD0)))) s241 s234
        obtain ⟨N245, s246, s247⟩ : ∃ N_, Own 28 whyE N242 N_ ca cc came ∧ Own 3 intE N_ M19 ao co os := Ly.swap (Ly.own (E := intE) 3 ao co os) (Ly.own (E := whyE) 28 ca cc came) s244 s235
        exact EX.then_loop ⟨k + 1, os, ao, co⟩ ⟨(by kernel_rfl), (by kernel_rfl), (by kernel_rfl), (by kernel_rfl), (by kernel_rfl), (by kernel_rfl), (lk_int (x := ((k + 1 : Nat) : Int)) (by kernel_rfl) (by first | omega | (dsimp only; omega) | rfl | (dsimp only; rfl))), trivial⟩ ⟨h15, N236, N239, N242, N245, M19, ((l5.trans l14).trans l15), G19, s237, ⟨_, _, s240, (((map_ent_set (r := cutR y ((rs.map (cutIf y (ks.take k))).getD i rowD0)) rfl rfl).symm.trans (congrArg (List.map rowEnt) hst)) ▸ mbm5)⟩, (hst ▸ s243), s246, s247, (all_up @whyG.mono (l14.trans l15) g_came5), (by first | omega | assumption | (dsimp only [List.length_nil, List.length_append, List.length_cons]; omega)), (by rw [hos]; exact lost_skip (by omega) hlv), (by first | omega | (simp only [List.length_append, List.length_cons, List.length_nil]; omega))⟩ (by first | omega | (dsimp only; omega))
  ·
    skip
    have d248 := of_decide_eq_false c6
    refine CW.exit ?_
    refine EX.exit_then ?_
    refine EX.exit_then ?_
    refine EX.exit_here ?_
    refine EX.then_code ?_
    refine CW.seq ?_
    refine CW.region ?_
    refine WL.q (.pointer (some ⟨t, 0, none⟩)) (by kernel_rfl) rfl (by kernel_rfl) (by kernel_rfl) ?_
    have hkk : k = ks.length := by omega
    have hca : rs.map (cutIf y (ks.take k)) = rs.map (cutR y) := by rw [hkk, List.take_length]; exact cut_all fun r hr => hkp.mem_iff.2 (List.mem_map_of_mem hr)
    obtain ⟨N249, s250, s251⟩ : ∃ N_, Blk bm (.map esbm5 ckbm5) M0 N_ ∧ Blk t (.cells #[.map (some bm), (.slice ca came.length cc)] 53 (0, 0)) N_ M1_5 := Ly.swap (Ly.blk t (.cells #[.map (some bm), (.slice ca came.length cc)] 53 (0, 0))) (Ly.blk bm (.map esbm5 ckbm5)) o_t5 Bbm5
    obtain ⟨N252, s253, s254⟩ : ∃ N_, StarL rowA (rs.map (cutIf y (ks.take k))) N249 N_ ∧ Blk t (.cells #[.map (some bm), (.slice ca came.length cc)] 53 (0, 0)) N_ M2_5 := Ly.swap (Ly.blk t (.cells #[.map (some bm), (.slice ca came.length cc)] 53 (0, 0))) (Ly.starL Ly.rowA (rs.map (cutIf y (ks.take k)))) s251 o_rows5
    obtain ⟨N255, s256, s257⟩ : ∃ N_, Own 28 whyE N252 N_ ca cc came ∧ Blk t (.cells #[.map (some bm), (.slice ca came.length cc)] 53 (0, 0)) N_ M3_5 := Ly.swap (Ly.blk t (.cells #[.map (some bm), (.slice ca came.length cc)] 53 (0, 0))) (Ly.own (E := whyE) 28 ca cc came) s254 o_came5
    obtain ⟨N258, s259, s260⟩ : ∃ N_, Own 3 intE N255 N_ ao co os ∧ Blk t (.cells #[.map (some bm), (.slice ca came.length cc)] 53 (0, 0)) N_ M4_5 := Ly.swap (Ly.blk t (.cells #[.map (some bm), (.slice ca came.length cc)] 53 (0, 0))) (Ly.own (E := intE) 3 ao co os) s257 o_out5
    obtain ⟨N261, s262, s263⟩ : ∃ N_, StarL rowA (rs.map (cutIf y (ks.take k))) M0 N_ ∧ Blk bm (.map esbm5 ckbm5) N_ N252 := Ly.swap (Ly.blk bm (.map esbm5 ckbm5)) (Ly.starL Ly.rowA (rs.map (cutIf y (ks.take k)))) s250 s253
    obtain ⟨N264, s265, s266⟩ : ∃ N_, Own 28 whyE N261 N_ ca cc came ∧ Blk bm (.map esbm5 ckbm5) N_ N255 := Ly.swap (Ly.blk bm (.map esbm5 ckbm5)) (Ly.own (E := whyE) 28 ca cc came) s263 s256
    obtain ⟨N267, s268, s269⟩ : ∃ N_, Own 3 intE N264 N_ ao co os ∧ Blk bm (.map esbm5 ckbm5) N_ N258 := Ly.swap (Ly.blk bm (.map esbm5 ckbm5)) (Ly.own (E := intE) 3 ao co os) s266 s259
    obtain ⟨N270, s271, s272⟩ : ∃ N_, Blk t (.cells #[.map (some bm), (.slice ca came.length cc)] 53 (0, 0)) N267 N_ ∧ Blk bm (.map esbm5 ckbm5) N_ M4_5 := Ly.swap (Ly.blk bm (.map esbm5 ckbm5)) (Ly.blk t (.cells #[.map (some bm), (.slice ca came.length cc)] 53 (0, 0))) s269 s260
    obtain ⟨N273, s274, s275⟩ : ∃ N_, Own 28 whyE M0 N_ ca cc came ∧ StarL rowA (rs.map (cutIf y (ks.take k))) N_ N264 := Ly.swap (Ly.starL Ly.rowA (rs.map (cutIf y (ks.take k)))) (Ly.own (E := whyE) 28 ca cc came) s262 s265
    obtain ⟨N276, s277, s278⟩ : ∃ N_, Own 3 intE N273 N_ ao co os ∧ StarL rowA (rs.map (cutIf y (ks.take k))) N_ N267 := Ly.swap (Ly.starL Ly.rowA (rs.map (cutIf y (ks.take k)))) (Ly.own (E := intE) 3 ao co os) s275 s268
    obtain ⟨N279, s280, s281⟩ : ∃ N_, Blk t (.cells #[.map (some bm), (.slice ca came.length cc)] 53 (0, 0)) N276 N_ ∧ StarL rowA (rs.map (cutIf y (ks.take k))) N_ N270 := Ly.swap (Ly.starL Ly.rowA (rs.map (cutIf y (ks.take k)))) (Ly.blk t (.cells #[.map (some bm), (.slice ca came.length cc)] 53 (0, 0))) s278 s271
    obtain ⟨N282, s283, s284⟩ : ∃ N_, Blk bm (.map esbm5 ckbm5) N279 N_ ∧ StarL rowA (rs.map (cutIf y (ks.take k))) N_ M4_5 := Ly.swap (Ly.starL Ly.rowA (rs.map (cutIf y (ks.take k)))) (Ly.blk bm (.map esbm5 ckbm5)) s281 s272
    obtain ⟨N285, s286, s287⟩ : ∃ N_, Own 3 intE M0 N_ ao co os ∧ Own 28 whyE N_ N276 ca cc came := Ly.swap (Ly.own (E := whyE) 28 ca cc came) (Ly.own (E := intE) 3 ao co os) s274 s277
    obtain ⟨N288, s289, s290⟩ : ∃ N_, Blk t (.cells #[.map (some bm), (.slice ca came.length cc)] 53 (0, 0)) N285 N_ ∧ Own 28 whyE N_ N279 ca cc came := Ly.swap (Ly.own (E := whyE) 28 ca cc came) (Ly.blk t (.cells #[.map (some bm), (.slice ca came.length cc)] 53 (0, 0))) s287 s280
    obtain ⟨N291, s292, s293⟩ : ∃ N_, Blk bm (.map esbm5 ckbm5) N288 N_ ∧ Own 28 whyE N_ N282 ca cc came := Ly.swap (Ly.own (E := whyE) 28 ca cc came) (Ly.blk bm (.map esbm5 ckbm5)) s290 s283
    obtain ⟨N294, s295, s296⟩ : ∃ N_, StarL rowA (rs.map (cutIf y (ks.take k))) N291 N_ ∧ Own 28 whyE N_ M4_5 ca cc came := Ly.swap (Ly.own (E := whyE) 28 ca cc came) (Ly.starL Ly.rowA (rs.map (cutIf y (ks.take k)))) s293 s284
    have Af : TabL h5 t (rs.map (cutR y)) came n N285 M4_5 := hca ▸ ⟨ca, cc, _, ⟨bm, _, _, _, _, s289, s292, s295, mbm5⟩, s296, TabOk.cut (ok.mono ((((l1.trans l2).trans l3).trans l4).trans l5)) y _⟩
    refine WL.call (by kernel_rfl) rfl (by kernel_rfl) (by kernel_rfl) (sweep_spec G5 Af hb) (RetM.elim ?_)
    rintro w297 h297 M297 _ l297 G297 ⟨rfl, A297⟩
    refine WL.nil ?_
    refine EX.then_code ?_
    refine CW.seq ?_
    refine CW.region ?_
    refine WL.q (.slice ao os.length co) (by kernel_rfl) rfl (by kernel_rfl) (by kernel_rfl) ?_
    refine WL.call (by kernel_rfl) rfl (by kernel_rfl) (by kernel_rfl) (clipI_spec (a := ao) (m := os.length) (c := co) G297 (by have q_ := s286.cap_le; first | omega | (simp only [List.length_take, List.length_append, List.length_drop] at q_; omega))) (Ret.elim ?_)
    rintro w298 h298 _ l298 G298 rfl
    refine WL.q (.slice ao os.length os.length) (by kernel_rfl) rfl (by kernel_rfl) (by kernel_rfl) ?_
    refine WL.nil ?_
    refine EX.then_code ?_
    refine CW.ret ?_
    refine EX.ret1 (v := (.slice ao os.length os.length)) rfl (by kernel_rfl) ?_
    obtain ⟨N299, s300, s301⟩ : ∃ N_, TabL h297 t (rs.map (cutR y)) (sweepC (rs.map (cutR y)) came) n M0 N_ ∧ Own 3 intE N_ M297 ao co os := Ly.swap (Ly.own (E := intE) 3 ao co os) (Ly.tabL h297 _ _ _ _) s286 A297
    obtain ⟨h302, l302, G302, r302⟩ := s301.freeze G298
    have hfin : os = (sortInts (rs.map (·.fact))).filter (lostF rs y) := by rw [← hks, hos, hkk, List.take_length]
    exact RetM.mk (((((((l1.trans l2).trans l3).trans l4).trans l5).trans l297).trans l298).trans l302) G302 ⟨ao, os, rfl, r302, hfin, (TabL.mono (l298.trans l302) s300)⟩
end Go.Proofs
