import Derived.Test.YthlcldgcjilfcaaS1
namespace Go.Proofs
open Go Go.Wk
theorem mapT51 : mapT Try.prog 51 (.int .i64) (.pointer none) := ⟨3, 54, by kernel_rfl, by kernel_rfl, by kernel_rfl⟩

/-- What 'of' leaves: row k is the fact's. -/
def OfIs (rs : List RowD) (f : Int) (rs' : List RowD) (k : Nat) : Prop := (rs' = rs ∧ k < rs.length ∧ (rs.getD k rowD0).fact = f) ∨ ((∀ r ∈ rs, r.fact ≠ f) ∧ ∃ p, rs' = rs ++ [⟨p, f, false, none, 0, []⟩] ∧ k = rs.length)
theorem OfIs.lt {rs rs' : List RowD} {f : Int} {k : Nat} (h : OfIs rs f rs' k) : k < rs'.length ∧ (rs'.getD k rowD0).fact = f := by
  rcases h with ⟨rfl, h1, h2⟩ | ⟨_, p, rfl, rfl⟩
  · exact ⟨h1, h2⟩
  · simp
theorem mput_new {rs : List RowD} {f : Int} (h : ∀ r ∈ rs, r.fact ≠ f) (p : Nat) : mput (rs.map rowEnt) f (.pointer (some ⟨p, 0, none⟩)) = (rs ++ [RowD.mk p f false none 0 []]).map rowEnt := by
  unfold mput
  rw [ents_none h]
  simp [rowEnt]
theorem new_look {rs : List RowD} {f : Int} (h : ∀ r ∈ rs, r.fact ≠ f) (p : Nat) : (mput (rs.map rowEnt) f (.pointer (some ⟨p, 0, none⟩))).lookup f = some (.pointer (some ⟨p, 0, none⟩)) := by
  rw [mput_new h, List.map_append, List.lookup_append, ents_none h]
  simp [rowEnt]
def standsR (r : RowD) : Bool := r.free || decide (0 < r.ws.length)
def usedR (rs : List RowD) (y : WhyD) : Bool := rs.any fun r => r.ws.any fun x => sameW x y
theorem nodup_len : ∀ (n : Nat) (js : List Nat), js.Nodup → (∀ j ∈ js, j < n) → js.length ≤ n
  | 0, js, _, h => by
    cases js with
    | nil => simp
    | cons j r => exact absurd (h j (by simp)) (by omega)
  | n + 1, js, hn, h => by
    by_cases hm : n ∈ js
    · have h1 := nodup_len n (js.erase n) (hn.erase n) (fun j hj => by
        have h2 := h j (List.mem_of_mem_erase hj)
        have h3 : j ≠ n := fun e => by subst e; exact (hn.not_mem_erase) hj
        omega)
      rw [List.length_erase_of_mem hm] at h1
      omega
    · have h1 := nodup_len n js hn (fun j hj => by
        have h2 := h j hj
        have h3 : j ≠ n := fun e => hm (e ▸ hj)
        omega)
      omega
theorem used_yes {rs : List RowD} {y : WhyD} {j : Nat} (hj : j < rs.length) (h : ((rs.getD j rowD0).ws.any fun x => sameW x y) = true) : usedR rs y = true :=
  List.any_eq_true.2 ⟨_, getD_mem (d := rowD0) hj, h⟩
theorem used_no {rs : List RowD} {y : WhyD} {js : List Nat} (h1 : ∀ j < rs.length, j ∈ js) (h2 : ∀ j ∈ js, ((rs.getD j rowD0).ws.any fun x => sameW x y) = false) : usedR rs y = false := by
  unfold usedR
  rw [List.any_eq_false]
  intro r hr
  obtain ⟨j, hj, rfl⟩ := List.getElem_of_mem hr
  have := h2 j (h1 j hj)
  rw [show rs.getD j rowD0 = rs[j] by simp [List.getD, hj]] at this
  simp [this]

theorem newT_spec {K : Key} {w : World} {h M : PH} (G : Wld K w h M) :
    Calls Try.prog 6 #[] w (RetM K h fun h' M' v => ∃ t, v = .pointer (some ⟨t, 0, none⟩) ∧ TabL h' t [] [] 0 M M') := by
  refine enter (l := []) Try.func6 rfl Try.ntmps6 (Nat.le_of_ble_eq_true rfl) ?_
  simp only [params]
  refine CW.seq ?_
  refine CW.region ?_
  refine WL.q (.pointer none) (by kernel_rfl) rfl (by kernel_rfl) (by kernel_rfl) ?_
  refine WL.nil ?_
  refine EX.then_code ?_
  refine CW.seq ?_
  refine CW.region ?_
  refine WL.ex (by kernel_rfl) rfl (by kernel_rfl) (q_makeMap (d := (.int .i64)) (ke := intK) G intK_key intK_inj (fun u_ => by kernel_rfl)) ?_
  rintro _ w1 ⟨b1, M1, es1, ck1, rfl, G1, B1, m1, L1⟩
  refine WL.q (.agg #[(.map (some b1)), (.slice none 0 0)]) (by kernel_rfl) rfl (by kernel_rfl) (by kernel_rfl) ?_
  refine WL.ex (by kernel_rfl) rfl (by kernel_rfl) (q_newB (ob := (.cells #[(.map (some b1)), (.slice none 0 0)] 53 (0, 0))) G1 (fun b_ => .pointer (some ⟨b_, 0, none⟩)) (fun u_ => by kernel_rfl)) ?_
  rintro _ w2 ⟨b2, M2, rfl, G2, B2, L2⟩
  refine WL.q (.pointer (some ⟨b2, 0, none⟩)) (by kernel_rfl) rfl (by kernel_rfl) (by kernel_rfl) ?_
  refine WL.nil ?_
  refine EX.then_code ?_
  refine CW.ret ?_
  refine EX.ret1 (v := (.pointer (some ⟨b2, 0, none⟩))) rfl (by kernel_rfl) ?_
  obtain ⟨N3, s4, s5⟩ : ∃ N_, Blk b2 (.cells #[(.map (some b1)), (.slice none 0 0)] 53 (0, 0)) M N_ ∧ Blk b1 (.map es1 ck1) N_ M2 := Ly.swap (Ly.blk b1 (.map es1 ck1)) (Ly.blk b2 (.cells #[(.map (some b1)), (.slice none 0 0)] 53 (0, 0))) B1 B2
  exact RetM.mk (PH.le_refl _) G2 ⟨_, rfl, none, 0, _, ⟨_, _, _, _, _, s4, s5, rfl, m1⟩, Own.nil 28 whyE _, ⟨by simp, by simp, List.nodup_nil, by simp, Nat.le_refl _, by simp, Nat.le_refl _⟩⟩

theorem stands_no {K : Key} {w : World} {h M0 M Mt : PH} (G : Wld K w h M) {t : Nat} {cv : Value} {rs : List RowD} (A : HeadL t cv rs M0 Mt) (hM : PH.le Mt M) {f : Int} (hf : ∀ r ∈ rs, r.fact ≠ f) :
    Calls Try.prog 12 #[.pointer (some ⟨t, 0, none⟩), .int .i64 f] w (Ret K h M fun _ v => v = .bool false) := by
  obtain ⟨bm, es, clk, Ma, Mb, Bt, Bm, Rs, mi⟩ := A
  have hl := ents_none hf
  refine enter (l := [(.pointer (some ⟨t, 0, none⟩)), (.int .i64 f)]) Try.func12 rfl Try.ntmps12 (Nat.le_of_ble_eq_true rfl) ?_
  simp only [params]
  refine CW.seq ?_
  refine CW.region ?_
  refine WL.q (.bool false) (by kernel_rfl) rfl (by kernel_rfl) (by kernel_rfl) ?_
  refine WL.nil ?_
  refine EX.then_code ?_
  refine CW.seq ?_
  refine CW.region ?_
  refine WL.q (.pointer (some ⟨t, 0, none⟩)) (by kernel_rfl) rfl (by kernel_rfl) (by kernel_rfl) ?_
  refine WL.q (.pointer (some ⟨t, 0, none⟩)) (by kernel_rfl) rfl (by kernel_rfl) (by kernel_rfl) ?_
  refine WL.q (.pointer (some ⟨t, 0, none⟩)) (by kernel_rfl) rfl (by kernel_rfl) (by kernel_rfl) ?_
  refine WL.q (.map (some bm)) (by kernel_rfl) rfl (by kernel_rfl) (q_load (off := 0) rfl (by kernel_rfl) (by kernel_rfl) (G.own _ _ (((Bm.le.trans (Ly.le (Ly.starL Ly.rowA rs) Rs)).trans hM) _ _ Bt.at)) (by kernel_rfl)) ?_
  refine WL.q (.int .i64 f) (by kernel_rfl) rfl (by kernel_rfl) (by kernel_rfl) ?_
  refine WL.q (.pointer none) (by kernel_rfl) rfl (by kernel_rfl) (q_lookup (k := f) false rfl mapT51 (by kernel_rfl) (by kernel_rfl) (G.own _ _ (((Ly.le (Ly.starL Ly.rowA rs) Rs).trans hM) _ _ Bm.at)) mi (by rw [hl]; rfl)) ?_
  refine WL.q (.pointer none) (by kernel_rfl) rfl (by kernel_rfl) (by kernel_rfl) ?_
  refine WL.nil ?_
  refine EX.then_code ?_
  refine CW.seq ?_
  refine CW.region ?_
  refine WL.q (.pointer none) (by kernel_rfl) rfl (by kernel_rfl) (by kernel_rfl) ?_
  refine WL.q (.bool false) (by kernel_rfl) rfl (by kernel_rfl) (by kernel_rfl) ?_
  refine WL.q (.bool false) (by kernel_rfl) rfl (by kernel_rfl) (by kernel_rfl) ?_
  refine WL.skip (by kernel_rfl) rfl (by kernel_rfl) ?_
  refine WL.skip (by kernel_rfl) rfl (by kernel_rfl) ?_
  refine WL.skip (by kernel_rfl) rfl (by kernel_rfl) ?_
  refine WL.skip (by kernel_rfl) rfl (by kernel_rfl) ?_
  refine WL.skip (by kernel_rfl) rfl (by kernel_rfl) ?_
  refine WL.skip (by kernel_rfl) rfl (by kernel_rfl) ?_
  refine WL.skip (by kernel_rfl) rfl (by kernel_rfl) ?_
  refine WL.skip (by kernel_rfl) rfl (by kernel_rfl) ?_
  refine WL.skip (by kernel_rfl) rfl (by kernel_rfl) ?_
  refine WL.skip (by kernel_rfl) rfl (by kernel_rfl) ?_
  refine WL.skip (by kernel_rfl) rfl (by kernel_rfl) ?_
  refine WL.skip (by kernel_rfl) rfl (by kernel_rfl) ?_
  refine WL.q (.bool false) (by kernel_rfl) rfl (by kernel_rfl) (by kernel_rfl) ?_
  refine WL.q (.bool false) (by kernel_rfl) rfl (by kernel_rfl) (by kernel_rfl) ?_
  refine WL.nil ?_
  refine EX.then_code ?_
  refine CW.ret ?_
  refine EX.ret1 (v := (.bool false)) rfl (by kernel_rfl) ?_
  exact Ret.mk (PH.le_refl _) G rfl

theorem stands_yes {K : Key} {w : World} {h M0 M Mt : PH} (G : Wld K w h M) {t : Nat} {cv : Value} {rs : List RowD} (A : HeadL t cv rs M0 Mt) (hM : PH.le Mt M) (hn : (rs.map (·.fact)).Nodup) {k : Nat} (hk : k < rs.length) {f : Int} (hf : (rs.getD k rowD0).fact = f) :
    Calls Try.prog 12 #[.pointer (some ⟨t, 0, none⟩), .int .i64 f] w (Ret K h M fun _ v => v = .bool (standsR (rs.getD k rowD0))) := by
  obtain ⟨bm, es, clk, Ma, Mb, Bt, Bm, Rs, mi⟩ := A
  have hl := ents_some hn hk
  rw [hf] at hl
  obtain ⟨Nr, ⟨Nr2, Br, Or⟩, ler⟩ := Rs.read Ly.rowA rowD0 hk
  refine enter (l := [(.pointer (some ⟨t, 0, none⟩)), (.int .i64 f)]) Try.func12 rfl Try.ntmps12 (Nat.le_of_ble_eq_true rfl) ?_
  simp only [params]
  refine CW.seq ?_
  refine CW.region ?_
  refine WL.q (.bool false) (by kernel_rfl) rfl (by kernel_rfl) (by kernel_rfl) ?_
  refine WL.nil ?_
  refine EX.then_code ?_
  refine CW.seq ?_
  refine CW.region ?_
  refine WL.q (.pointer (some ⟨t, 0, none⟩)) (by kernel_rfl) rfl (by kernel_rfl) (by kernel_rfl) ?_
  refine WL.q (.pointer (some ⟨t, 0, none⟩)) (by kernel_rfl) rfl (by kernel_rfl) (by kernel_rfl) ?_
  refine WL.q (.pointer (some ⟨t, 0, none⟩)) (by kernel_rfl) rfl (by kernel_rfl) (by kernel_rfl) ?_
  refine WL.q (.map (some bm)) (by kernel_rfl) rfl (by kernel_rfl) (q_load (off := 0) rfl (by kernel_rfl) (by kernel_rfl) (G.own _ _ (((Bm.le.trans (Ly.le (Ly.starL Ly.rowA rs) Rs)).trans hM) _ _ Bt.at)) (by kernel_rfl)) ?_
  refine WL.q (.int .i64 f) (by kernel_rfl) rfl (by kernel_rfl) (by kernel_rfl) ?_
  refine WL.q (.pointer (some ⟨(rs.getD k rowD0).p, 0, none⟩)) (by kernel_rfl) rfl (by kernel_rfl) (q_lookup (k := f) false rfl mapT51 (by kernel_rfl) (by kernel_rfl) (G.own _ _ (((Ly.le (Ly.starL Ly.rowA rs) Rs).trans hM) _ _ Bm.at)) mi (by rw [hl]; rfl)) ?_
  refine WL.q (.pointer (some ⟨(rs.getD k rowD0).p, 0, none⟩)) (by kernel_rfl) rfl (by kernel_rfl) (by kernel_rfl) ?_
  refine WL.nil ?_
  refine EX.then_code ?_
  refine CW.seq ?_
  refine CW.region ?_
  refine WL.q (.pointer (some ⟨(rs.getD k rowD0).p, 0, none⟩)) (by kernel_rfl) rfl (by kernel_rfl) (by kernel_rfl) ?_
  refine WL.q (.bool true) (by kernel_rfl) rfl (by kernel_rfl) (by kernel_rfl) ?_
  refine WL.q (.bool true) (by kernel_rfl) rfl (by kernel_rfl) (by kernel_rfl) ?_
  refine WL.q (.pointer (some ⟨(rs.getD k rowD0).p, 0, none⟩)) (by kernel_rfl) rfl (by kernel_rfl) (by kernel_rfl) ?_
  refine WL.q (.pointer (some ⟨(rs.getD k rowD0).p, 0, none⟩)) (by kernel_rfl) rfl (by kernel_rfl) (by kernel_rfl) ?_
  refine WL.q (.pointer (some ⟨(rs.getD k rowD0).p, 0, none⟩)) (by kernel_rfl) rfl (by kernel_rfl) (by kernel_rfl) ?_
  refine WL.q (.bool ((rs.getD k rowD0).free)) (by kernel_rfl) rfl (by kernel_rfl) (q_load (off := 0) rfl (by kernel_rfl) (by kernel_rfl) (G.own _ _ ((Or.le.trans hM) _ _ Br.at)) (by kernel_rfl)) ?_
  refine WL.q (.bool ((rs.getD k rowD0).free)) (by kernel_rfl) rfl (by kernel_rfl) (by kernel_rfl) ?_
  rcases bool_cases ((rs.getD k rowD0).free) with c6 | c6
  ·
    skip
    refine WL.know 19 (.bool true) (x := .bool ((rs.getD k rowD0).free)) (by kernel_rfl) (congrArg Value.bool c6) ?_
    refine WL.skip (by kernel_rfl) rfl (by kernel_rfl) ?_
    refine WL.skip (by kernel_rfl) rfl (by kernel_rfl) ?_
    refine WL.skip (by kernel_rfl) rfl (by kernel_rfl) ?_
    refine WL.skip (by kernel_rfl) rfl (by kernel_rfl) ?_
    refine WL.skip (by kernel_rfl) rfl (by kernel_rfl) ?_
    refine WL.skip (by kernel_rfl) rfl (by kernel_rfl) ?_
    refine WL.q (.bool true) (by kernel_rfl) rfl (by kernel_rfl) (by kernel_rfl) ?_
    refine WL.q (.bool true) (by kernel_rfl) rfl (by kernel_rfl) (by kernel_rfl) ?_
    refine WL.q (.bool true) (by kernel_rfl) rfl (by kernel_rfl) (by kernel_rfl) ?_
    refine WL.nil ?_
    refine EX.then_code ?_
    refine CW.ret ?_
    refine EX.ret1 (v := (.bool true)) rfl (by kernel_rfl) ?_
    exact Ret.mk (PH.le_refl _) G (by unfold standsR; first | rfl | simp_all)
  ·
    skip
    refine WL.know 19 (.bool false) (x := .bool ((rs.getD k rowD0).free)) (by kernel_rfl) (congrArg Value.bool c6) ?_
    refine WL.q (.pointer (some ⟨(rs.getD k rowD0).p, 0, none⟩)) (by kernel_rfl) rfl (by kernel_rfl) (by kernel_rfl) ?_
    refine WL.q (.pointer (some ⟨(rs.getD k rowD0).p, 0, none⟩)) (by kernel_rfl) rfl (by kernel_rfl) (by kernel_rfl) ?_
    refine WL.q (.pointer (some ⟨(rs.getD k rowD0).p, 1, none⟩)) (by kernel_rfl) rfl (by kernel_rfl) (by kernel_rfl) ?_
    refine WL.q (.slice ((rs.getD k rowD0).a) ((rs.getD k rowD0).ws.length) ((rs.getD k rowD0).c)) (by kernel_rfl) rfl (by kernel_rfl) (q_load (off := 1) rfl (by kernel_rfl) (by kernel_rfl) (G.own _ _ ((Or.le.trans hM) _ _ Br.at)) (by kernel_rfl)) ?_
    refine WL.q (.int .i64 ((rs.getD k rowD0).ws.length : Int)) (by kernel_rfl) rfl (by kernel_rfl) (by kernel_rfl) ?_
    refine WL.q (.bool (decide (((rs.getD k rowD0).ws.length : Int) > 0))) (by kernel_rfl) rfl (by kernel_rfl) (by kernel_rfl) ?_
    refine WL.q (.bool (decide (((rs.getD k rowD0).ws.length : Int) > 0))) (by kernel_rfl) rfl (by kernel_rfl) (by kernel_rfl) ?_
    refine WL.q (.bool (decide (((rs.getD k rowD0).ws.length : Int) > 0))) (by kernel_rfl) rfl (by kernel_rfl) (by kernel_rfl) ?_
    refine WL.q (.bool (decide (((rs.getD k rowD0).ws.length : Int) > 0))) (by kernel_rfl) rfl (by kernel_rfl) (by kernel_rfl) ?_
    refine WL.nil ?_
    refine EX.then_code ?_
    refine CW.ret ?_
    refine EX.ret1 (v := (.bool (decide (((rs.getD k rowD0).ws.length : Int) > 0)))) rfl (by kernel_rfl) ?_
    exact Ret.mk (PH.le_refl _) G (by unfold standsR; first | rfl | simp_all)

theorem of_yes {K : Key} {w : World} {h M0 M Mt : PH} (G : Wld K w h M) {t : Nat} {cv : Value} {rs : List RowD} (A : HeadL t cv rs M0 Mt) (hM : PH.le Mt M) (hn : (rs.map (·.fact)).Nodup) {k : Nat} (hk : k < rs.length) {f : Int} (hf : (rs.getD k rowD0).fact = f) :
    Calls Try.prog 21 #[.pointer (some ⟨t, 0, none⟩), .int .i64 f] w (Ret K h M fun _ v => v = .pointer (some ⟨(rs.getD k rowD0).p, 0, none⟩)) := by
  obtain ⟨bm, es, clk, Ma, Mb, Bt, Bm, Rs, mi⟩ := A
  have hl := ents_some hn hk
  rw [hf] at hl
  refine enter (l := [(.pointer (some ⟨t, 0, none⟩)), (.int .i64 f)]) Try.func21 rfl Try.ntmps21 (Nat.le_of_ble_eq_true rfl) ?_
  simp only [params]
  refine CW.seq ?_
  refine CW.region ?_
  refine WL.q (.pointer none) (by kernel_rfl) rfl (by kernel_rfl) (by kernel_rfl) ?_
  refine WL.nil ?_
  refine EX.then_code ?_
  refine CW.seq ?_
  refine CW.seq ?_
  refine CW.region ?_
  refine WL.q (.pointer (some ⟨t, 0, none⟩)) (by kernel_rfl) rfl (by kernel_rfl) (by kernel_rfl) ?_
  refine WL.q (.pointer (some ⟨t, 0, none⟩)) (by kernel_rfl) rfl (by kernel_rfl) (by kernel_rfl) ?_
  refine WL.q (.pointer (some ⟨t, 0, none⟩)) (by kernel_rfl) rfl (by kernel_rfl) (by kernel_rfl) ?_
  refine WL.q (.map (some bm)) (by kernel_rfl) rfl (by kernel_rfl) (q_load (off := 0) rfl (by kernel_rfl) (by kernel_rfl) (G.own _ _ (((Bm.le.trans (Ly.le (Ly.starL Ly.rowA rs) Rs)).trans hM) _ _ Bt.at)) (by kernel_rfl)) ?_
  refine WL.q (.int .i64 f) (by kernel_rfl) rfl (by kernel_rfl) (by kernel_rfl) ?_
  refine WL.q (.pointer (some ⟨(rs.getD k rowD0).p, 0, none⟩)) (by kernel_rfl) rfl (by kernel_rfl) (q_lookup (k := f) false rfl mapT51 (by kernel_rfl) (by kernel_rfl) (G.own _ _ (((Ly.le (Ly.starL Ly.rowA rs) Rs).trans hM) _ _ Bm.at)) mi (by rw [hl]; rfl)) ?_
  refine WL.q (.bool false) (by kernel_rfl) rfl (by kernel_rfl) (by kernel_rfl) ?_
  refine WL.nil ?_
  refine EX.then_code ?_
  refine CW.cond_f (by kernel_rfl) (by kernel_rfl) ?_
  refine CW.skip ?_
  refine EX.then_code ?_
  refine CW.seq ?_
  refine CW.region ?_
  refine WL.q (.pointer (some ⟨t, 0, none⟩)) (by kernel_rfl) rfl (by kernel_rfl) (by kernel_rfl) ?_
  refine WL.q (.pointer (some ⟨t, 0, none⟩)) (by kernel_rfl) rfl (by kernel_rfl) (by kernel_rfl) ?_
  refine WL.q (.pointer (some ⟨t, 0, none⟩)) (by kernel_rfl) rfl (by kernel_rfl) (by kernel_rfl) ?_
  refine WL.q (.map (some bm)) (by kernel_rfl) rfl (by kernel_rfl) (q_load (off := 0) rfl (by kernel_rfl) (by kernel_rfl) (G.own _ _ (((Bm.le.trans (Ly.le (Ly.starL Ly.rowA rs) Rs)).trans hM) _ _ Bt.at)) (by kernel_rfl)) ?_
  refine WL.q (.int .i64 f) (by kernel_rfl) rfl (by kernel_rfl) (by kernel_rfl) ?_
  refine WL.q (.pointer (some ⟨(rs.getD k rowD0).p, 0, none⟩)) (by kernel_rfl) rfl (by kernel_rfl) (q_lookup (k := f) false rfl mapT51 (by kernel_rfl) (by kernel_rfl) (G.own _ _ (((Ly.le (Ly.starL Ly.rowA rs) Rs).trans hM) _ _ Bm.at)) mi (by rw [hl]; rfl)) ?_
  refine WL.q (.pointer (some ⟨(rs.getD k rowD0).p, 0, none⟩)) (by kernel_rfl) rfl (by kernel_rfl) (by kernel_rfl) ?_
  refine WL.nil ?_
  refine EX.then_code ?_
  refine CW.ret ?_
  refine EX.ret1 (v := (.pointer (some ⟨(rs.getD k rowD0).p, 0, none⟩))) rfl (by kernel_rfl) ?_
  exact Ret.mk (PH.le_refl _) G rfl

theorem of_no {K : Key} {w : World} {h M0 M : PH} (G : Wld K w h M) {t : Nat} {cv : Value} {rs : List RowD} (A : HeadL t cv rs M0 M) {f : Int} (hf : ∀ r ∈ rs, r.fact ≠ f) :
    Calls Try.prog 21 #[.pointer (some ⟨t, 0, none⟩), .int .i64 f] w (RetM K h fun _ M' v => ∃ rs' k, v = .pointer (some ⟨(rs'.getD k rowD0).p, 0, none⟩) ∧ HeadL t cv rs' M0 M' ∧ OfIs rs f rs' k) := by
  obtain ⟨bm, es, clk, Ma, Mb, Bt, Bm, Rs, mi⟩ := A
  have hl := ents_none hf
  refine enter (l := [(.pointer (some ⟨t, 0, none⟩)), (.int .i64 f)]) Try.func21 rfl Try.ntmps21 (Nat.le_of_ble_eq_true rfl) ?_
  simp only [params]
  refine CW.seq ?_
  refine CW.region ?_
  refine WL.q (.pointer none) (by kernel_rfl) rfl (by kernel_rfl) (by kernel_rfl) ?_
  refine WL.nil ?_
  refine EX.then_code ?_
  refine CW.seq ?_
  refine CW.seq ?_
  refine CW.region ?_
  refine WL.q (.pointer (some ⟨t, 0, none⟩)) (by kernel_rfl) rfl (by kernel_rfl) (by kernel_rfl) ?_
  refine WL.q (.pointer (some ⟨t, 0, none⟩)) (by kernel_rfl) rfl (by kernel_rfl) (by kernel_rfl) ?_
  refine WL.q (.pointer (some ⟨t, 0, none⟩)) (by kernel_rfl) rfl (by kernel_rfl) (by kernel_rfl) ?_
  refine WL.q (.map (some bm)) (by kernel_rfl) rfl (by kernel_rfl) (q_load (off := 0) rfl (by kernel_rfl) (by kernel_rfl) (G.own _ _ ((Bm.le.trans (Ly.le (Ly.starL Ly.rowA rs) Rs)) _ _ Bt.at)) (by kernel_rfl)) ?_
  refine WL.q (.int .i64 f) (by kernel_rfl) rfl (by kernel_rfl) (by kernel_rfl) ?_
  refine WL.q (.pointer none) (by kernel_rfl) rfl (by kernel_rfl) (q_lookup (k := f) false rfl mapT51 (by kernel_rfl) (by kernel_rfl) (G.own _ _ ((Ly.le (Ly.starL Ly.rowA rs) Rs) _ _ Bm.at)) mi (by rw [hl]; rfl)) ?_
  refine WL.q (.bool true) (by kernel_rfl) rfl (by kernel_rfl) (by kernel_rfl) ?_
  refine WL.nil ?_
  refine EX.then_code ?_
  refine CW.cond_t (by kernel_rfl) (by kernel_rfl) ?_
  refine CW.region ?_
  refine WL.q (.pointer (some ⟨t, 0, none⟩)) (by kernel_rfl) rfl (by kernel_rfl) (by kernel_rfl) ?_
  refine WL.q (.pointer (some ⟨t, 0, none⟩)) (by kernel_rfl) rfl (by kernel_rfl) (by kernel_rfl) ?_
  refine WL.q (.pointer (some ⟨t, 0, none⟩)) (by kernel_rfl) rfl (by kernel_rfl) (by kernel_rfl) ?_
  refine WL.q (.map (some bm)) (by kernel_rfl) rfl (by kernel_rfl) (q_load (off := 0) rfl (by kernel_rfl) (by kernel_rfl) (G.own _ _ ((Bm.le.trans (Ly.le (Ly.starL Ly.rowA rs) Rs)) _ _ Bt.at)) (by kernel_rfl)) ?_
  refine WL.q (.int .i64 f) (by kernel_rfl) rfl (by kernel_rfl) (by kernel_rfl) ?_
  refine WL.q (.agg #[(.bool false), (.slice none 0 0)]) (by kernel_rfl) rfl (by kernel_rfl) (by kernel_rfl) ?_
  refine WL.ex (by kernel_rfl) rfl (by kernel_rfl) (q_newB (ob := (.cells #[(.bool false), (.slice none 0 0)] 58 (0, 0))) G (fun b_ => .pointer (some ⟨b_, 0, none⟩)) (fun u_ => by kernel_rfl)) ?_
  rintro _ w9 ⟨b9, M9, rfl, G9, B9, L9⟩
  obtain ⟨N10, s11, s12⟩ : ∃ N_, StarL rowA rs Ma N_ ∧ Blk bm (.map es clk) N_ M := Ly.swap (Ly.blk bm (.map es clk)) (Ly.starL Ly.rowA rs) Bm Rs
  obtain ⟨N13, s14, s15⟩ : ∃ N_, Blk b9 (.cells #[(.bool false), (.slice none 0 0)] 58 (0, 0)) N10 N_ ∧ Blk bm (.map es clk) N_ M9 := Ly.swap (Ly.blk bm (.map es clk)) (Ly.blk b9 (.cells #[(.bool false), (.slice none 0 0)] 58 (0, 0))) s12 B9
  refine WL.exu (by kernel_rfl) rfl (by kernel_rfl) (q_mapUp (k := (f)) (v := (.pointer (some ⟨b9, 0, none⟩))) G9 s15 mi (by first | exact .inl rfl | exact .inr rfl) mapT51 (by kernel_rfl) (by kernel_rfl) (by kernel_rfl)) ?_
  rintro w16 ⟨M16, es16, ck16, G16, B16, m16⟩
  refine WL.nil ?_
  refine EX.then_code ?_
  refine CW.seq ?_
  refine CW.region ?_
  refine WL.q (.pointer (some ⟨t, 0, none⟩)) (by kernel_rfl) rfl (by kernel_rfl) (by kernel_rfl) ?_
  refine WL.q (.pointer (some ⟨t, 0, none⟩)) (by kernel_rfl) rfl (by kernel_rfl) (by kernel_rfl) ?_
  refine WL.q (.pointer (some ⟨t, 0, none⟩)) (by kernel_rfl) rfl (by kernel_rfl) (by kernel_rfl) ?_
  refine WL.q (.map (some bm)) (by kernel_rfl) rfl (by kernel_rfl) (q_load (off := 0) rfl (by kernel_rfl) (by kernel_rfl) (G16.own _ _ ((((Ly.le (Ly.starL Ly.rowA rs) s11).trans s14.le).trans B16.le) _ _ Bt.at)) (by kernel_rfl)) ?_
  refine WL.q (.int .i64 f) (by kernel_rfl) rfl (by kernel_rfl) (by kernel_rfl) ?_
  refine WL.q (.pointer (some ⟨b9, 0, none⟩)) (by kernel_rfl) rfl (by kernel_rfl) (q_lookup (k := f) false rfl mapT51 (by kernel_rfl) (by kernel_rfl) (G16.own _ _ B16.at) m16 (by rw [(new_look hf b9)]; rfl)) ?_
  refine WL.q (.pointer (some ⟨b9, 0, none⟩)) (by kernel_rfl) rfl (by kernel_rfl) (by kernel_rfl) ?_
  refine WL.nil ?_
  refine EX.then_code ?_
  refine CW.ret ?_
  refine EX.ret1 (v := (.pointer (some ⟨b9, 0, none⟩))) rfl (by kernel_rfl) ?_
  obtain ⟨N17, s18, s19⟩ : ∃ N_, StarL rowA rs M0 N_ ∧ Blk t (.cells #[.map (some bm), cv] 53 (0, 0)) N_ N10 := Ly.swap (Ly.blk t (.cells #[.map (some bm), cv] 53 (0, 0))) (Ly.starL Ly.rowA rs) Bt s11
  obtain ⟨N20, s21, s22⟩ : ∃ N_, Blk b9 (.cells #[(.bool false), (.slice none 0 0)] 58 (0, 0)) N17 N_ ∧ Blk t (.cells #[.map (some bm), cv] 53 (0, 0)) N_ N13 := Ly.swap (Ly.blk t (.cells #[.map (some bm), cv] 53 (0, 0))) (Ly.blk b9 (.cells #[(.bool false), (.slice none 0 0)] 58 (0, 0))) s19 s14
  obtain ⟨N23, s24, s25⟩ : ∃ N_, Blk bm (.map es16 ck16) N20 N_ ∧ Blk t (.cells #[.map (some bm), cv] 53 (0, 0)) N_ M16 := Ly.swap (Ly.blk t (.cells #[.map (some bm), cv] 53 (0, 0))) (Ly.blk bm (.map es16 ck16)) s22 B16
  obtain ⟨N26, s27, s28⟩ : ∃ N_, Blk t (.cells #[.map (some bm), cv] 53 (0, 0)) N20 N_ ∧ Blk bm (.map es16 ck16) N_ M16 := Ly.swap (Ly.blk bm (.map es16 ck16)) (Ly.blk t (.cells #[.map (some bm), cv] 53 (0, 0))) s24 s25
  obtain ⟨N29, s30, s31⟩ : ∃ N_, Blk b9 (.cells #[(.bool false), (.slice none 0 0)] 58 (0, 0)) M0 N_ ∧ StarL rowA rs N_ N20 := Ly.swap (Ly.starL Ly.rowA rs) (Ly.blk b9 (.cells #[(.bool false), (.slice none 0 0)] 58 (0, 0))) s18 s21
  obtain ⟨N32, s33, s34⟩ : ∃ N_, Blk t (.cells #[.map (some bm), cv] 53 (0, 0)) N29 N_ ∧ StarL rowA rs N_ N26 := Ly.swap (Ly.starL Ly.rowA rs) (Ly.blk t (.cells #[.map (some bm), cv] 53 (0, 0))) s31 s27
  obtain ⟨N35, s36, s37⟩ : ∃ N_, Blk bm (.map es16 ck16) N32 N_ ∧ StarL rowA rs N_ M16 := Ly.swap (Ly.starL Ly.rowA rs) (Ly.blk bm (.map es16 ck16)) s34 s28
  obtain ⟨N38, s39, s40⟩ : ∃ N_, Blk t (.cells #[.map (some bm), cv] 53 (0, 0)) M0 N_ ∧ Blk b9 (.cells #[(.bool false), (.slice none 0 0)] 58 (0, 0)) N_ N32 := Ly.swap (Ly.blk b9 (.cells #[(.bool false), (.slice none 0 0)] 58 (0, 0))) (Ly.blk t (.cells #[.map (some bm), cv] 53 (0, 0))) s30 s33
  obtain ⟨N41, s42, s43⟩ : ∃ N_, Blk bm (.map es16 ck16) N38 N_ ∧ Blk b9 (.cells #[(.bool false), (.slice none 0 0)] 58 (0, 0)) N_ N35 := Ly.swap (Ly.blk b9 (.cells #[(.bool false), (.slice none 0 0)] 58 (0, 0))) (Ly.blk bm (.map es16 ck16)) s40 s36
  obtain ⟨N44, s45, s46⟩ : ∃ N_, StarL rowA rs N41 N_ ∧ Blk b9 (.cells #[(.bool false), (.slice none 0 0)] 58 (0, 0)) N_ M16 := Ly.swap (Ly.blk b9 (.cells #[(.bool false), (.slice none 0 0)] 58 (0, 0))) (Ly.starL Ly.rowA rs) s43 s37
  exact RetM.mk (PH.le_refl _) G16 ⟨rs ++ [⟨b9, f, false, none, 0, []⟩], rs.length, by simp, ⟨_, _, _, _, _, s39, s42, StarL.push s45 ⟨_, s46, Own.nil 28 whyE _⟩, mput_new hf _ ▸ m16⟩, .inr ⟨hf, _, rfl, rfl⟩⟩

theorem of_spec {K : Key} {w : World} {h M0 M : PH} (G : Wld K w h M) {t : Nat} {cv : Value} {rs : List RowD} (A : HeadL t cv rs M0 M) (hn : (rs.map (·.fact)).Nodup) (f : Int) :
    Calls Try.prog 21 #[.pointer (some ⟨t, 0, none⟩), .int .i64 f] w (RetM K h fun _ M' v => ∃ rs' k, v = .pointer (some ⟨(rs'.getD k rowD0).p, 0, none⟩) ∧ HeadL t cv rs' M0 M' ∧ OfIs rs f rs' k) := by
  rcases row_cases rs f with hf | ⟨k, hk, hf⟩
  · exact of_no G A hf
  · exact (of_yes G A (PH.le_refl _) hn hk hf).mono (RetM.mono fun h' M' v hl ⟨e, hv⟩ => ⟨rs, k, hv, e ▸ A, .inl ⟨rfl, hk, hf⟩⟩)

theorem ent33 : Enters Try.prog 33 := fun _ _ => by kernel_rfl

theorem used_spec {K : Key} {w : World} {h M0 M Mt : PH} (G : Wld K w h M) {t : Nat} {cv : Value} {rs : List RowD} (A : HeadL t cv rs M0 Mt) (hM : PH.le Mt M) (ok1 : ∀ r ∈ rs, ∀ w ∈ r.ws, whyG h w) (ok2 : ∀ r ∈ rs, r.ws.length ≤ 1000) {y : WhyD} (gy : whyG h y) :
    Calls Try.prog 37 #[.pointer (some ⟨t, 0, none⟩), .agg (whyE.enc y).toArray] w (Ret K h M fun _ v => v = .bool (usedR rs y)) := by
  obtain ⟨bm, es, clk, Ma, Mb, Bt, Bm, Rs, mi⟩ := A
  have hsz : es.size = rs.length := by simpa using mi.size
  refine enter (l := [(.pointer (some ⟨t, 0, none⟩)), (.agg #[(.int .i64 ((y).rule)), (.int .i64 ((y).alt)), (.slice ((y).a) ((y).facts.length) ((y).c))])]) Try.func37 rfl Try.ntmps37 (Nat.le_of_ble_eq_true rfl) ?_
  simp only [params]
  refine CW.seq ?_
  refine CW.region ?_
  refine WL.ex (by kernel_rfl) rfl (by kernel_rfl) (q_newF (ob := (.cells #[(.int .i64 ((y).rule)), (.int .i64 ((y).alt)), (.slice ((y).a) ((y).facts.length) ((y).c))] 28 (0, 0))) G (fun b_ => .pointer (some ⟨b_, 0, none⟩)) (fun u_ => by kernel_rfl)) ?_
  rintro _ w47 ⟨b47, h47, rfl, l47, G47, hb47, L47⟩
  refine WL.q (.bool false) (by kernel_rfl) rfl (by kernel_rfl) (by kernel_rfl) ?_
  refine WL.nil ?_
  refine EX.then_code ?_
  refine CW.seq ?_
  refine CW.seq ?_
  refine CW.region ?_
  refine WL.q (.pointer (some ⟨t, 0, none⟩)) (by kernel_rfl) rfl (by kernel_rfl) (by kernel_rfl) ?_
  refine WL.q (.pointer (some ⟨t, 0, none⟩)) (by kernel_rfl) rfl (by kernel_rfl) (by kernel_rfl) ?_
  refine WL.q (.pointer (some ⟨t, 0, none⟩)) (by kernel_rfl) rfl (by kernel_rfl) (by kernel_rfl) ?_
  refine WL.q (.map (some bm)) (by kernel_rfl) rfl (by kernel_rfl) (q_load (off := 0) rfl (by kernel_rfl) (by kernel_rfl) (G47.own _ _ (((Bm.le.trans (Ly.le (Ly.starL Ly.rowA rs) Rs)).trans hM) _ _ Bt.at)) (by kernel_rfl)) ?_
  refine WL.ex (by kernel_rfl) rfl (by kernel_rfl) (q_range (k := 3) (e := 54) rfl (by kernel_rfl) (by kernel_rfl) (G47.own _ _ (((Ly.le (Ly.starL Ly.rowA rs) Rs).trans hM) _ _ Bm.at)) G47) ?_
  rintro _ w48 ⟨b48, M48, rfl, G48, B48, hit0⟩
  refine WL.nil ?_
  refine EX.then_code ?_
  refine CW.block ?_
  refine CW.loop (β := List Nat × Array Nat) (fun x_ => [(3, (.pointer (some ⟨b47, 0, none⟩))), (11, (.pointer (some ⟨b48, 0, none⟩)))]) (fun x_ w_ => ∃ h_ M0_, (PH.le h47 h_) ∧ (Wld K w_ h_ M0_) ∧ (Blk b48 (.mapIter (some bm) clk x_.2 clk) M M0_) ∧ (IterIs es x_.2 x_.1) ∧ (∀ j ∈ x_.1, ((rs.getD j rowD0).ws.any fun x => sameW x y) = false)) (fun x_ => rs.length - x_.1.length) ⟨[], #[]⟩ ⟨(by kernel_rfl), (by kernel_rfl), trivial⟩ ⟨h47, M48, (PH.le_refl _), G48, B48, hit0, (by simp)⟩ ?_
  rintro ⟨js, se⟩ w49 ⟨h49, M0_49, l49, G49, o_b4849, hit, hno⟩
  try dsimp only at *
  refine CW.seq ?_
  refine CW.region ?_
  rcases iter_next (dd := rowD0) G49 o_b4849 (G49.own _ _ ((((Ly.le (Ly.starL Ly.rowA rs) Rs).trans hM).trans o_b4849.le) _ _ Bm.at)) mi hit 0 with ⟨hall, hrun50⟩ | ⟨j, w50, M50, se50, hj, hnj, hrun50, G50, B50, hit2⟩
  ·
    skip
    refine WL.val (.tuple #[(.bool false)]) (by kernel_rfl) rfl (by kernel_rfl) (q_nextRun rfl (by kernel_rfl) hrun50) ?_
    refine WL.q (.bool false) (by kernel_rfl) rfl (by kernel_rfl) (by kernel_rfl) ?_
    refine WL.nil ?_
    refine EX.then_code ?_
    refine CW.seq ?_
    refine CW.cond_f (by kernel_rfl) (by kernel_rfl) ?_
    refine CW.exit ?_
    refine EX.exit_then ?_
    refine EX.exit_then ?_
    refine EX.exit_here ?_
    refine EX.then_code ?_
    refine CW.seq ?_
    refine CW.region ?_
    refine WL.q (.bool false) (by kernel_rfl) rfl (by kernel_rfl) (by kernel_rfl) ?_
    refine WL.nil ?_
    refine EX.then_code ?_
    refine CW.ret ?_
    refine EX.ret1 (v := (.bool false)) rfl (by kernel_rfl) ?_
    exact Ret.mk (l47.trans l49) (G49.drop o_b4849.le) (congrArg Value.bool (used_no hall hno).symm)
  ·
    skip
    refine WL.val (.tuple #[(.bool true), (.int .i64 ((rs.getD j rowD0).fact)), (.pointer (some ⟨(rs.getD j rowD0).p, 0, none⟩))]) (by kernel_rfl) rfl (by kernel_rfl) (q_nextRun rfl (by kernel_rfl) hrun50) ?_
    refine WL.q (.bool true) (by kernel_rfl) rfl (by kernel_rfl) (by kernel_rfl) ?_
    refine WL.nil ?_
    refine EX.then_code ?_
    refine CW.seq ?_
    refine CW.cond_t (by kernel_rfl) (by kernel_rfl) ?_
    refine CW.skip ?_
    refine EX.then_code ?_
    refine CW.block ?_
    refine CW.seq ?_
    refine CW.region ?_
    obtain ⟨Nr, ⟨Nr2, Br, Or⟩, ler⟩ := Rs.read Ly.rowA rowD0 hj
    refine WL.q (.tuple #[(.int .i64 ((rs.getD j rowD0).fact)), (.pointer (some ⟨(rs.getD j rowD0).p, 0, none⟩))]) (by kernel_rfl) rfl (by kernel_rfl) (q_entry (dd := rowD0) (j := j) rfl (by kernel_rfl) (G50.own _ _ B50.at) (G50.own _ _ ((((Ly.le (Ly.starL Ly.rowA rs) Rs).trans hM).trans B50.le) _ _ Bm.at)) mi hit2) ?_
    refine WL.q (.pointer (some ⟨(rs.getD j rowD0).p, 0, none⟩)) (by kernel_rfl) rfl (by kernel_rfl) (by kernel_rfl) ?_
    refine WL.q (.pointer (some ⟨(rs.getD j rowD0).p, 0, none⟩)) (by kernel_rfl) rfl (by kernel_rfl) (by kernel_rfl) ?_
    refine WL.nil ?_
    refine EX.then_code ?_
    refine CW.seq ?_
    refine CW.draw (by kernel_rfl) [(3, fun w_ => PH.all w_ ((rs.getD j rowD0).p) = some (.cells #[.bool (rs.getD j rowD0).free, (.slice ((rs.getD j rowD0).a) ((rs.getD j rowD0).ws.length) ((rs.getD j rowD0).c))] 58 (0, 0))), (4, fun w_ => PH.all w_ b47 = some (.cells #[(.int .i64 ((y).rule)), (.int .i64 ((y).alt)), (.slice ((y).a) ((y).facts.length) ((y).c))] 28 (0, 0)))] ?_
    refine DW.take (T := fun _ => True) 0 (.pointer (some ⟨(rs.getD j rowD0).p, 0, none⟩)) rfl (by kernel_rfl) rfl (by kernel_rfl) (.inl fun _ => trivial) (by kernel_rfl) (Deaf.thens (Deaf.block (Deaf.thens (Deaf.block (Deaf.thens (Deaf.body RetM.not_panicked)))))) (fun w_ _ => (by kernel_rfl)) trivial ?_
    refine DW.take (T := fun _ => True) 1 (.pointer (some ⟨(rs.getD j rowD0).p, 0, none⟩)) rfl (by kernel_rfl) rfl (by kernel_rfl) (.inl fun _ => trivial) (by kernel_rfl) (Deaf.thens (Deaf.block (Deaf.thens (Deaf.block (Deaf.thens (Deaf.body RetM.not_panicked)))))) (fun w_ _ => (by kernel_rfl)) trivial ?_
    refine DW.take (T := fun _ => True) 2 (.pointer (some ⟨(rs.getD j rowD0).p, 1, none⟩)) rfl (by kernel_rfl) rfl (by kernel_rfl) (.inl fun _ => trivial) (by kernel_rfl) (Deaf.thens (Deaf.block (Deaf.thens (Deaf.block (Deaf.thens (Deaf.body RetM.not_panicked)))))) (fun w_ _ => (by kernel_rfl)) trivial ?_
    refine DW.take (T := fun w_ => PH.all w_ ((rs.getD j rowD0).p) = some (.cells #[.bool (rs.getD j rowD0).free, (.slice ((rs.getD j rowD0).a) ((rs.getD j rowD0).ws.length) ((rs.getD j rowD0).c))] 58 (0, 0))) 3 (.slice ((rs.getD j rowD0).a) ((rs.getD j rowD0).ws.length) ((rs.getD j rowD0).c)) rfl (by kernel_rfl) rfl (by kernel_rfl) (.inr (by first | exact .head _ | exact .tail _ (.head _) | exact .tail _ (.tail _ (.head _)) | exact .tail _ (.tail _ (.tail _ (.head _))) | simp)) (by kernel_rfl) (Deaf.thens (Deaf.block (Deaf.thens (Deaf.block (Deaf.thens (Deaf.body RetM.not_panicked)))))) (fun w_ T_ => (q_load (off := 1) rfl (by kernel_rfl) (by kernel_rfl) T_ (by kernel_rfl))) ((G50.drew).own _ _ (((Or.le.trans hM).trans B50.le) _ _ Br.at)) ?_
    refine DW.take (T := fun w_ => PH.all w_ b47 = some (.cells #[(.int .i64 ((y).rule)), (.int .i64 ((y).alt)), (.slice ((y).a) ((y).facts.length) ((y).c))] 28 (0, 0))) 4 (.agg #[(.int .i64 ((y).rule)), (.int .i64 ((y).alt)), (.slice ((y).a) ((y).facts.length) ((y).c))]) rfl (by kernel_rfl) rfl (by kernel_rfl) (.inr (by first | exact .head _ | exact .tail _ (.head _) | exact .tail _ (.tail _ (.head _)) | exact .tail _ (.tail _ (.tail _ (.head _))) | simp)) (by kernel_rfl) (Deaf.thens (Deaf.block (Deaf.thens (Deaf.block (Deaf.thens (Deaf.body RetM.not_panicked)))))) (fun w_ T_ => (q_loadAgg (off := 0) (vs := [(.int .i64 ((y).rule)), (.int .i64 ((y).alt)), (.slice ((y).a) ((y).facts.length) ((y).c))]) rfl (by kernel_rfl) (by kernel_rfl) T_ (agg_at (by kernel_rfl)))) ((G50.drew).imm _ _ (l49 _ _ hb47)) ?_
    refine DW.only 5 (by kernel_rfl) ?_
    refine DOp.call rfl (by kernel_rfl) rfl (by kernel_rfl) (by kernel_rfl) (is_spec (G50.drew) y) (Ret.elimD (fun w51 h51 l51 G51 => ⟨.inr (fun _ => (G51.own _ _ (((Or.le.trans hM).trans B50.le) _ _ Br.at))), .inl (by kernel_rfl), trivial⟩) ?_)
    rintro w51 h51 _ l51 G51 ⟨b51, rfl, q51⟩
    refine DW.only 6 (by kernel_rfl) ?_
    refine DOp.call rfl (by kernel_rfl) rfl (by kernel_rfl) (by kernel_rfl) (has_spec (c := ((rs.getD j rowD0).c)) G51 (Or.reads.mono (hM.trans B50.le)) (by have := ok2 _ (getD_mem (d := rowD0) hj); omega) 33 #[.pointer (some ⟨b51, 0, none⟩)] (fun x => sameW x y) ent33 (fun x hx w' h' M' hl hm g' => isC_spec g' (whyG.mono hl _ ((all_up @whyG.mono ((l47.trans l49).trans l51) (ok1 _ (getD_mem (d := rowD0) hj))) x hx)) (whyG.mono (((l47.trans l49).trans l51).trans hl) _ gy) (hl _ _ ((PH.le_refl _) _ _ q51)))) (Ret.elimD (fun w52 h52 l52 G52 => ⟨.inl (by kernel_rfl), .inr (fun _ => (G52.imm _ _ (((l49.trans l51).trans l52) _ _ hb47))), trivial⟩) ?_)
    rintro w52 h52 _ l52 G52 rfl
    refine DW.done (by kernel_rfl) ?_
    refine EX.then_code ?_
    refine CW.cond (((rs.getD j rowD0).ws).any fun x => sameW x y) (by kernel_rfl) (by kernel_rfl) (fun c53 => ?_) (fun c53 => ?_)
    ·
      skip
      refine CW.seq ?_
      refine CW.region ?_
      refine WL.q (.bool true) (by kernel_rfl) rfl (by kernel_rfl) (by kernel_rfl) ?_
      refine WL.nil ?_
      refine EX.then_code ?_
      refine CW.ret ?_
      refine EX.ret_block ?_
      refine EX.ret_then ?_
      refine EX.ret_block ?_
      refine EX.ret_then ?_
      refine EX.ret1 (v := (.bool true)) rfl (by kernel_rfl) ?_
      exact Ret.mk (((l47.trans l49).trans l51).trans l52) (G52.drop B50.le) (congrArg Value.bool (used_yes hj (by assumption)).symm)
    ·
      skip
      refine CW.skip ?_
      refine EX.in_block ?_
      exact EX.then_loop ⟨j :: js, se50⟩ ⟨(by kernel_rfl), (by kernel_rfl), trivial⟩ ⟨h52, M50, ((l49.trans l51).trans l52), G52, B50, hit2, (fun i hi => by rcases List.mem_cons.1 hi with rfl | hi; (exact c53); (exact hno i hi))⟩ (by have q_ := nodup_len _ _ hit2.nodup hit2.lt; rw [hsz] at q_; simp only [List.length_cons] at q_ ⊢; omega)
end Go.Proofs
