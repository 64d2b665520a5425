import Derived.Test.YthlcldgcjilfcaaS4
namespace Go.Proofs
open Go Go.Wk
theorem map_succ {A B : Type} (f : A → B) (d : A) (row fs : List A) {k : Nat} (hk : k < row.length) {x : A} (h : fs.map f = (row.take k).map f) (hf : f x = f (row.getD k d)) :
    (fs ++ [x]).map f = (row.take (k + 1)).map f := by
  have e : row.getD k d = row[k] := by simp [List.getD, hk]
  rw [List.take_succ_eq_append_getElem hk, List.map_append, List.map_append, h, ← e]
  simp [hf]
theorem map_len {A B : Type} {f : A → B} {a b : List A} (h : a.map f = b.map f) : a.length = b.length := by simpa using congrArg List.length h
theorem count_perm {n : Nat} {js : List Nat} (hn : js.Nodup) (h1 : ∀ j ∈ js, j < n) (h2 : ∀ j < n, j ∈ js) (p : Nat → Bool) : (js.filter p).length = ((List.range n).filter p).length := by
  have hp : js.Perm (List.range n) := (List.perm_ext_iff_of_nodup hn List.nodup_range).2 fun j => ⟨fun h => List.mem_range.2 (h1 j h), fun h => h2 j (List.mem_range.1 h)⟩
  exact (hp.filter p).length_eq
theorem range_filter {A : Type} (d : A) (p : A → Bool) : ∀ l : List A, ((List.range l.length).filter fun j => p (l.getD j d)).length = (l.filter p).length
  | [] => rfl
  | x :: r => by
    rw [List.length_cons, List.range_succ_eq_map, List.filter_cons, List.filter_cons]
    have ih := range_filter d p r
    rw [List.filter_map]
    simp only [Function.comp_def, List.getD_cons_succ, List.getD_cons_zero]
    split
    · simp only [List.length_cons, List.length_map]; omega
    · simp only [List.length_map]; omega
theorem filt_succ {js : List Nat} {p : Nat → Bool} {j : Nat} (h : p j = true) : ((j :: js).filter p).length = (js.filter p).length + 1 := by rw [List.filter_cons_of_pos h]; rfl
theorem filt_skip {js : List Nat} {p : Nat → Bool} {j : Nat} (h : p j = false) : ((j :: js).filter p).length = (js.filter p).length := by rw [List.filter_cons_of_neg (by rw [h]; simp)]

theorem len_spec {K : Key} {w : World} {h M0 M Mt : PH} (G : Wld K w h M) {t : Nat} {cv : Value} {rs : List RowD} (A : HeadL t cv rs M0 Mt) (hM : PH.le Mt M) (hn : (rs.map (·.fact)).Nodup) (hl : rs.length ≤ 1000) :
    Calls Try.prog 20 #[.pointer (some ⟨t, 0, none⟩)] w (Ret K h M fun _ v => v = .int .i64 ((rs.filter standsR).length : Nat)) := by
  obtain ⟨bm, es, clk, Ma, Mb, Bt, Bm, Rs, mi⟩ := A
  have hsz : es.size = rs.length := by simpa using mi.size
  refine enter (l := [(.pointer (some ⟨t, 0, none⟩))]) Try.func20 rfl Try.ntmps20 (Nat.le_of_ble_eq_true rfl) ?_
  simp only [params]
  refine CW.seq ?_
  refine CW.region ?_
  refine WL.q (.int .i64 0) (by kernel_rfl) rfl (by kernel_rfl) (by kernel_rfl) ?_
  refine WL.nil ?_
  refine EX.then_code ?_
  refine CW.seq ?_
  refine CW.region ?_
  refine WL.q (.int .i64 0) (by kernel_rfl) rfl (by kernel_rfl) (by kernel_rfl) ?_
  refine WL.nil ?_
  refine EX.then_code ?_
  refine CW.seq ?_
  refine CW.seq ?_
  refine CW.region ?_
  refine WL.q (.pointer (some ⟨t, 0, none⟩)) (by kernel_rfl) rfl (by kernel_rfl) (by kernel_rfl) ?_
  refine WL.q (.pointer (some ⟨t, 0, none⟩)) (by kernel_rfl) rfl (by kernel_rfl) (by kernel_rfl) ?_
  refine WL.q (.pointer (some ⟨t, 0, none⟩)) (by kernel_rfl) rfl (by kernel_rfl) (by kernel_rfl) ?_
  refine WL.q (.map (some bm)) (by kernel_rfl) rfl (by kernel_rfl) (q_load (off := 0) rfl (by kernel_rfl) (by kernel_rfl) (G.own _ _ (((Bm.le.trans (Ly.le (Ly.starL Ly.rowA rs) Rs)).trans hM) _ _ Bt.at)) (by kernel_rfl)) ?_
  refine WL.ex (by kernel_rfl) rfl (by kernel_rfl) (q_range (k := 3) (e := 54) rfl (by kernel_rfl) (by kernel_rfl) (G.own _ _ (((Ly.le (Ly.starL Ly.rowA rs) Rs).trans hM) _ _ Bm.at)) G) ?_
  rintro _ w1 ⟨b1, M1, rfl, G1, B1, hit0⟩
  refine WL.nil ?_
  refine EX.then_code ?_
  refine CW.block ?_
  refine CW.loop (β := List Nat × Array Nat × Nat) (fun x_ => [(0, (.pointer (some ⟨t, 0, none⟩))), (2, (.int .i64 0)), (3, (.int .i64 (x_.2.2 : Int))), (9, (.pointer (some ⟨b1, 0, none⟩)))]) (fun x_ w_ => ∃ h_ M0_, (PH.le h h_) ∧ (Wld K w_ h_ M0_) ∧ (Blk b1 (.mapIter (some bm) clk x_.2.1 clk) M M0_) ∧ (IterIs es x_.2.1 x_.1) ∧ (x_.2.2 = (x_.1.filter fun j => standsR (rs.getD j rowD0)).length) ∧ (x_.2.2 ≤ x_.1.length)) (fun x_ => rs.length - x_.1.length) ⟨[], #[], 0⟩ ⟨(by kernel_rfl), (by kernel_rfl), (lk_int (x := 0) (by kernel_rfl) (by first | omega | (dsimp only; omega) | rfl | (dsimp only; rfl))), (by kernel_rfl), trivial⟩ ⟨h, M1, (PH.le_refl _), G1, B1, hit0, rfl, (Nat.le_refl _)⟩ ?_
  rintro ⟨js, se, c⟩ w2 ⟨h2, M0_2, l2, G2, o_b12, hit, hc, hcl⟩
  try dsimp only at *
  have hjl := nodup_len _ _ hit.nodup hit.lt
  rw [hsz] at hjl
  refine CW.seq ?_
  refine CW.region ?_
  rcases iter_next (dd := rowD0) G2 o_b12 (G2.own _ _ ((((Ly.le (Ly.starL Ly.rowA rs) Rs).trans hM).trans o_b12.le) _ _ Bm.at)) mi hit 0 with ⟨hall, hrun3⟩ | ⟨j, w3, M3, se3, hj, hnj, hrun3, G3, B3, hit2⟩
  ·
    skip
    refine WL.val (.tuple #[(.bool false)]) (by kernel_rfl) rfl (by kernel_rfl) (q_nextRun rfl (by kernel_rfl) hrun3) ?_
    refine WL.q (.bool false) (by kernel_rfl) rfl (by kernel_rfl) (by kernel_rfl) ?_
    refine WL.nil ?_
    refine EX.then_code ?_
    refine CW.seq ?_
    refine CW.cond_f (by kernel_rfl) (by kernel_rfl) ?_
    refine CW.exit ?_
    refine EX.exit_then ?_
    refine EX.exit_then ?_
    refine EX.exit_here ?_
    refine EX.then_code ?_
    refine CW.seq ?_
    refine CW.region ?_
    refine WL.q (.int .i64 (c : Int)) (by kernel_rfl) rfl (by kernel_rfl) (by kernel_rfl) ?_
    refine WL.q (.int .i64 (c : Int)) (by kernel_rfl) rfl (by kernel_rfl) (by kernel_rfl) ?_
    refine WL.nil ?_
    refine EX.then_code ?_
    refine CW.ret ?_
    refine EX.ret1 (v := (.int .i64 (c : Int))) rfl (by kernel_rfl) ?_
    have hfin : c = (rs.filter standsR).length := by rw [hc, count_perm hit.nodup hit.lt (fun j hj => hall j (by omega)) _, hsz, range_filter rowD0 standsR rs]
    exact Ret.mk l2 (G2.drop o_b12.le) (by rw [hfin])
  ·
    skip
    refine WL.val (.tuple #[(.bool true), (.int .i64 ((rs.getD j rowD0).fact)), (.pointer (some ⟨(rs.getD j rowD0).p, 0, none⟩))]) (by kernel_rfl) rfl (by kernel_rfl) (q_nextRun rfl (by kernel_rfl) hrun3) ?_
    refine WL.q (.bool true) (by kernel_rfl) rfl (by kernel_rfl) (by kernel_rfl) ?_
    refine WL.nil ?_
    refine EX.then_code ?_
    refine CW.seq ?_
    refine CW.cond_t (by kernel_rfl) (by kernel_rfl) ?_
    refine CW.skip ?_
    refine EX.then_code ?_
    refine CW.block ?_
    refine CW.seq ?_
    refine CW.region ?_
    refine WL.q (.tuple #[(.int .i64 ((rs.getD j rowD0).fact)), (.pointer (some ⟨(rs.getD j rowD0).p, 0, none⟩))]) (by kernel_rfl) rfl (by kernel_rfl) (q_entry (dd := rowD0) (j := j) rfl (by kernel_rfl) (G3.own _ _ B3.at) (G3.own _ _ ((((Ly.le (Ly.starL Ly.rowA rs) Rs).trans hM).trans B3.le) _ _ Bm.at)) mi hit2) ?_
    refine WL.q (.int .i64 ((rs.getD j rowD0).fact)) (by kernel_rfl) rfl (by kernel_rfl) (by kernel_rfl) ?_
    refine WL.q (.int .i64 ((rs.getD j rowD0).fact)) (by kernel_rfl) rfl (by kernel_rfl) (by kernel_rfl) ?_
    refine WL.nil ?_
    refine EX.then_code ?_
    refine CW.seq ?_
    refine CW.region ?_
    refine WL.q (.pointer (some ⟨t, 0, none⟩)) (by kernel_rfl) rfl (by kernel_rfl) (by kernel_rfl) ?_
    refine WL.q (.int .i64 ((rs.getD j rowD0).fact)) (by kernel_rfl) rfl (by kernel_rfl) (by kernel_rfl) ?_
    refine WL.call (by kernel_rfl) rfl (by kernel_rfl) (by kernel_rfl) (stands_yes G3 ⟨bm, es, clk, Ma, Mb, Bt, Bm, Rs, mi⟩ (hM.trans B3.le) hn hj (f := ((rs.getD j rowD0).fact)) rfl) (Ret.elim ?_)
    rintro w4 h4 _ l4 G4 rfl
    refine WL.nil ?_
    refine EX.then_code ?_
    refine CW.cond (standsR (rs.getD j rowD0)) (by kernel_rfl) (by kernel_rfl) (fun c5 => ?_) (fun c5 => ?_)
    ·
      skip
      refine CW.region ?_
      refine WL.q (.int .i64 (c : Int)) (by kernel_rfl) rfl (by kernel_rfl) (by kernel_rfl) ?_
      refine WL.q (.int .i64 ((c + 1 : Nat) : Int)) (by kernel_rfl) rfl (by kernel_rfl) (q_int (x := IntKind.i64.wrap ((c : Int) + 1)) (by kernel_rfl) (wrap_to (by omega) (by omega) (by omega))) ?_
      refine WL.q (.int .i64 ((c + 1 : Nat) : Int)) (by kernel_rfl) rfl (by kernel_rfl) (by kernel_rfl) ?_
      refine WL.nil ?_
      refine EX.in_block ?_
      exact EX.then_loop ⟨j :: js, se3, c + 1⟩ ⟨(by kernel_rfl), (by kernel_rfl), (lk_int (x := ((c + 1 : Nat) : Int)) (by kernel_rfl) (by first | omega | (dsimp only; omega) | rfl | (dsimp only; rfl))), (by kernel_rfl), trivial⟩ ⟨h4, M3, (l2.trans l4), G4, B3, hit2, (by rw [filt_succ c5, ← hc]), (by simp only [List.length_cons]; omega)⟩ (by have q_ := nodup_len _ _ hit2.nodup hit2.lt; rw [hsz] at q_; simp only [List.length_cons] at q_ ⊢; omega)
    ·
      skip
      refine CW.skip ?_
      refine EX.in_block ?_
      exact EX.then_loop ⟨j :: js, se3, c⟩ ⟨(by kernel_rfl), (by kernel_rfl), (by kernel_rfl), (by kernel_rfl), trivial⟩ ⟨h4, M3, (l2.trans l4), G4, B3, hit2, (by rw [filt_skip c5, ← hc]), (by simp only [List.length_cons]; omega)⟩ (by have q_ := nodup_len _ _ hit2.nodup hit2.lt; rw [hsz] at q_; simp only [List.length_cons] at q_ ⊢; omega)

theorem all_spec {K : Key} {w : World} {h M0 M Mt : PH} (G : Wld K w h M) {t : Nat} {rs : List RowD} {came : List WhyD} {n : Nat} (A : TabL h t rs came n M0 Mt) (hM : PH.le Mt M) (hb : n ≤ 1000) :
    Calls Try.prog 11 #[.pointer (some ⟨t, 0, none⟩)] w (Ret K h M fun h' v => ∃ a fs, v = .slice a fs.length fs.length ∧ RS h' whyE a fs ∧ (∀ f ∈ fs, whyG h' f) ∧ fs.map datW = came.map datW) := by
  obtain ⟨ca, cc, Mr, ⟨bm, es, clk, Ma, Mb, Bt, Bm, Rs, mi⟩, Oc, ok⟩ := A
  have hlc := ok.lenc
  refine enter (l := [(.pointer (some ⟨t, 0, none⟩))]) Try.func11 rfl Try.ntmps11 (Nat.le_of_ble_eq_true rfl) ?_
  simp only [params]
  refine CW.seq ?_
  refine CW.region ?_
  refine WL.q (.slice none 0 0) (by kernel_rfl) rfl (by kernel_rfl) (by kernel_rfl) ?_
  refine WL.nil ?_
  refine EX.then_code ?_
  refine CW.seq ?_
  refine CW.region ?_
  refine WL.q (.slice none 0 0) (by kernel_rfl) rfl (by kernel_rfl) (by kernel_rfl) ?_
  refine WL.nil ?_
  refine EX.then_code ?_
  refine CW.seq ?_
  refine CW.seq ?_
  refine CW.region ?_
  refine WL.q (.pointer (some ⟨t, 0, none⟩)) (by kernel_rfl) rfl (by kernel_rfl) (by kernel_rfl) ?_
  refine WL.q (.pointer (some ⟨t, 0, none⟩)) (by kernel_rfl) rfl (by kernel_rfl) (by kernel_rfl) ?_
  refine WL.q (.pointer (some ⟨t, 1, none⟩)) (by kernel_rfl) rfl (by kernel_rfl) (by kernel_rfl) ?_
  refine WL.q (.slice ca came.length cc) (by kernel_rfl) rfl (by kernel_rfl) (q_load (off := 1) rfl (by kernel_rfl) (by kernel_rfl) (G.own _ _ ((((Bm.le.trans (Ly.le (Ly.starL Ly.rowA rs) Rs)).trans Oc.le).trans hM) _ _ Bt.at)) (by kernel_rfl)) ?_
  refine WL.q (.int .i64 (came.length : Int)) (by kernel_rfl) rfl (by kernel_rfl) (by kernel_rfl) ?_
  refine WL.q (.int .i64 0) (by kernel_rfl) rfl (by kernel_rfl) (by kernel_rfl) ?_
  refine WL.nil ?_
  refine EX.then_code ?_
  refine CW.block ?_
  refine CW.loop (β := Nat × List WhyD × Option Addr × Nat) (fun x_ => [(2, (.slice none 0 0)), (3, (.slice x_.2.2.1 x_.2.1.length x_.2.2.2)), (9, (.slice ca came.length cc)), (10, (.int .i64 (came.length : Int))), (11, (.int .i64 (x_.1 : Int)))]) (fun x_ w_ => ∃ h_ M0_, (PH.le h h_) ∧ (Wld K w_ h_ M0_) ∧ (Own 28 whyE M M0_ x_.2.2.1 x_.2.2.2 x_.2.1) ∧ (∀ e_ ∈ x_.2.1, whyG h_ e_) ∧ (x_.1 ≤ came.length) ∧ (x_.2.1.map datW = (came.take x_.1).map datW)) (fun x_ => came.length - x_.1) ⟨0, [], none, 0⟩ ⟨(by kernel_rfl), (by kernel_rfl), (by kernel_rfl), (by kernel_rfl), (lk_int (x := 0) (by kernel_rfl) (by first | omega | (dsimp only; omega) | rfl | (dsimp only; rfl))), trivial⟩ ⟨h, M, (PH.le_refl _), G, (Own.nil 28 whyE M), all_nil, (by first | omega | assumption | (dsimp only [List.length_nil, List.length_append, List.length_cons]; omega)), rfl⟩ ?_
  rintro ⟨k, fs, ao, co⟩ w8 ⟨h8, M0_8, l8, G8, o_out8, g_out8, hk, hd⟩
  try dsimp only at *
  have hfl := map_len hd
  rw [List.length_take] at hfl
  refine CW.seq ?_
  refine CW.region ?_
  refine WL.q (.bool (decide ((k : Int) < (came.length : Int)))) (by kernel_rfl) rfl (by kernel_rfl) (by kernel_rfl) ?_
  refine WL.nil ?_
  refine EX.then_code ?_
  refine CW.seq ?_
  refine CW.cond (decide ((k : Int) < (came.length : Int))) (by kernel_rfl) (by kernel_rfl) (fun c9 => ?_) (fun c9 => ?_)
  ·
    skip
    have d10 := of_decide_eq_true c9
    refine CW.skip ?_
    refine EX.then_code ?_
    refine CW.seq ?_
    refine CW.block ?_
    refine CW.seq ?_
    refine CW.region ?_
    refine WL.q (eptr ca (k * whyE.sz)) (by kernel_rfl) rfl (by kernel_rfl) (q_indexAddr (i := k) (E := whyE) (xs := came) (e := 28) (c := cc) (k := .i64) (m := came.length) rfl rfl (by kernel_rfl) (by kernel_rfl) (by kernel_rfl) (Oc.reads.mono ((hM.trans o_out8.le).trans G8.own)) (by omega)) ?_
    refine WL.q (.agg #[(.int .i64 (((came.getD k whyE.dflt)).rule)), (.int .i64 (((came.getD k whyE.dflt)).alt)), (.slice (((came.getD k whyE.dflt)).a) (((came.getD k whyE.dflt)).facts.length) (((came.getD k whyE.dflt)).c))]) (by kernel_rfl) rfl (by kernel_rfl) (q_val (q_loadAgg_e (i := k) (E := whyE) rfl (by kernel_rfl) (by kernel_rfl) (Oc.reads.mono ((hM.trans o_out8.le).trans G8.own)) (by omega)) (by kernel_rfl)) ?_
    refine WL.ex (by kernel_rfl) rfl (by kernel_rfl) (q_newB (ob := (.cells #[(.int .i64 0), (.int .i64 0), (.slice none 0 0)] 28 (0, 0))) G8 (fun b_ => .pointer (some ⟨b_, 0, none⟩)) (fun u_ => by kernel_rfl)) ?_
    rintro _ w11 ⟨b11, M11, rfl, G11, B11, L11⟩
    refine WL.exu (by kernel_rfl) rfl (by kernel_rfl) (q_storeB (off := 0) (et := 28) (v := (.agg #[(.int .i64 (((came.getD k whyE.dflt)).rule)), (.int .i64 (((came.getD k whyE.dflt)).alt)), (.slice (((came.getD k whyE.dflt)).a) (((came.getD k whyE.dflt)).facts.length) (((came.getD k whyE.dflt)).c))])) (vs := [(.int .i64 (((came.getD k whyE.dflt)).rule)), (.int .i64 (((came.getD k whyE.dflt)).alt)), (.slice (((came.getD k whyE.dflt)).a) (((came.getD k whyE.dflt)).facts.length) (((came.getD k whyE.dflt)).c))]) #[(.int .i64 (((came.getD k whyE.dflt)).rule)), (.int .i64 (((came.getD k whyE.dflt)).alt)), (.slice (((came.getD k whyE.dflt)).a) (((came.getD k whyE.dflt)).facts.length) (((came.getD k whyE.dflt)).c))] G11 B11 rfl (by kernel_rfl) (by kernel_rfl) (by kernel_rfl) (by kernel_rfl) (by simp [Value.oneCell']) (by simp) (by kernel_rfl)) ?_
    rintro w12 ⟨M12, G12, B12⟩
    obtain ⟨h13, l13, G13, hb13⟩ := B12.freeze G12
    refine WL.nil ?_
    refine EX.then_code ?_
    refine CW.region ?_
    refine WL.q (.slice ao fs.length co) (by kernel_rfl) rfl (by kernel_rfl) (by kernel_rfl) ?_
    refine WL.q (.agg #[(.int .i64 (((came.getD k whyE.dflt)).rule)), (.int .i64 (((came.getD k whyE.dflt)).alt)), (.slice (((came.getD k whyE.dflt)).a) (((came.getD k whyE.dflt)).facts.length) (((came.getD k whyE.dflt)).c))]) (by kernel_rfl) rfl (by kernel_rfl) (q_loadAgg (off := 0) (vs := [(.int .i64 (((came.getD k whyE.dflt)).rule)), (.int .i64 (((came.getD k whyE.dflt)).alt)), (.slice (((came.getD k whyE.dflt)).a) (((came.getD k whyE.dflt)).facts.length) (((came.getD k whyE.dflt)).c))]) rfl (by kernel_rfl) (by kernel_rfl) (G13.imm _ _ ((PH.le_refl _) _ _ hb13)) (agg_at (by kernel_rfl))) ?_
    have hy20 := (ok.all _ (getD_mem (d := whyE.dflt) (show k < came.length by omega))).2
    refine WL.call (by kernel_rfl) rfl (by kernel_rfl) (by kernel_rfl) (apart_spec (f := (came.getD k whyE.dflt)) G13 (whyG.mono (l8.trans l13) _ (ok.all _ (getD_mem (d := whyE.dflt) (show k < came.length by omega))))) (Ret.elim ?_)
    rintro w14 h14 _ l14 G14 ⟨a14, c14, rfl, q14⟩
    refine WL.ex (by kernel_rfl) rfl (by kernel_rfl) (q_newF (ob := (.cells #[(.int .i64 (((came.getD k whyE.dflt)).rule)), (.int .i64 (((came.getD k whyE.dflt)).alt)), (.slice a14 (((came.getD k whyE.dflt)).facts.length) c14)] 28 (0, 0))) G14 (fun b_ => .slice (some ⟨b_, 0, none⟩) 1 1) (fun u_ => by kernel_rfl)) ?_
    rintro _ w15 ⟨b15, h15, rfl, l15, G15, hb15, L15⟩
    have r16 : RS h15 whyE (some ⟨b15, 0, none⟩) [(WhyD.mk (((came.getD k whyE.dflt)).rule) (((came.getD k whyE.dflt)).alt) a14 (((came.getD k whyE.dflt)).facts) c14)] := RS.blk hb15 (by kernel_rfl)
    have g16 : ∀ e_ ∈ [(WhyD.mk (((came.getD k whyE.dflt)).rule) (((came.getD k whyE.dflt)).alt) a14 (((came.getD k whyE.dflt)).facts) c14)], whyG h15 e_ := (all_one (show whyG h15 (WhyD.mk (((came.getD k whyE.dflt)).rule) (((came.getD k whyE.dflt)).alt) a14 (((came.getD k whyE.dflt)).facts) c14) from ⟨(q14.1.mono l15), by omega⟩))
    refine WL.ex (by kernel_rfl) rfl (by kernel_rfl) (q_app (e := 28) (bytes := 40) (cap := co) (c2 := 1) (M0 := M) (xs := fs) (ys := ([(WhyD.mk (((came.getD k whyE.dflt)).rule) (((came.getD k whyE.dflt)).alt) a14 (((came.getD k whyE.dflt)).facts) c14)])) G15 o_out8 (r16.mono ((PH.le_refl _).trans G15.imm)) rfl (by kernel_rfl) (by kernel_rfl) (by kernel_rfl) (by first | (simp only [maxLen, List.length_append, List.length_cons, List.length_nil]; omega) | (simp only [maxLen]; omega)) (by first | omega | (simp only [List.length_append, List.length_cons, List.length_nil]; omega))) ?_
    rintro _ w17 ⟨a17, k17, M17, rfl, G17, o17, z17⟩
    have g17 : ∀ e_ ∈ (fs ++ ([(WhyD.mk (((came.getD k whyE.dflt)).rule) (((came.getD k whyE.dflt)).alt) a14 (((came.getD k whyE.dflt)).facts) c14)])), whyG h15 e_ := all_app (all_up @whyG.mono ((l13.trans l14).trans l15) g_out8) g16
    refine WL.q (.slice a17 ((fs ++ ([(WhyD.mk (((came.getD k whyE.dflt)).rule) (((came.getD k whyE.dflt)).alt) a14 (((came.getD k whyE.dflt)).facts) c14)])).length) k17) (by kernel_rfl) rfl (by kernel_rfl) (by kernel_rfl) ?_
    refine WL.nil ?_
    refine EX.in_block ?_
    refine EX.then_code ?_
    refine CW.region ?_
    refine WL.q (.int .i64 ((k + 1 : Nat) : Int)) (by kernel_rfl) rfl (by kernel_rfl) (q_int (x := IntKind.i64.wrap ((k : Int) + 1)) (by kernel_rfl) (wrap_to (by omega) (by omega) (by omega))) ?_
    refine WL.q (.int .i64 ((k + 1 : Nat) : Int)) (by kernel_rfl) rfl (by kernel_rfl) (by kernel_rfl) ?_
    refine WL.nil ?_
    exact EX.then_loop ⟨k + 1, (fs ++ ([(WhyD.mk (((came.getD k whyE.dflt)).rule) (((came.getD k whyE.dflt)).alt) a14 (((came.getD k whyE.dflt)).facts) c14)])), a17, k17⟩ ⟨(by kernel_rfl), (by kernel_rfl), (by kernel_rfl), (by kernel_rfl), (lk_int (x := ((k + 1 : Nat) : Int)) (by kernel_rfl) (by first | omega | (dsimp only; omega) | rfl | (dsimp only; rfl))), trivial⟩ ⟨h15, M17, (((l8.trans l13).trans l14).trans l15), G17, o17, g17, (by first | omega | assumption | (dsimp only [List.length_nil, List.length_append, List.length_cons]; omega)), (map_succ datW whyE.dflt came fs (by omega) hd rfl)⟩ (by first | omega | (dsimp only; omega))
  ·
    skip
    have d18 := of_decide_eq_false c9
    refine CW.exit ?_
    refine EX.exit_then ?_
    refine EX.exit_then ?_
    refine EX.exit_here ?_
    refine EX.then_code ?_
    refine CW.seq ?_
    refine CW.region ?_
    refine WL.q (.slice ao fs.length co) (by kernel_rfl) rfl (by kernel_rfl) (by kernel_rfl) ?_
    refine WL.call (by kernel_rfl) rfl (by kernel_rfl) (by kernel_rfl) (clipW_spec (a := ao) (m := fs.length) (c := co) G8 (by have q_ := o_out8.cap_le; first | omega | (simp only [List.length_take, List.length_append, List.length_drop] at q_; omega))) (Ret.elim ?_)
    rintro w19 h19 _ l19 G19 rfl
    refine WL.q (.slice ao fs.length fs.length) (by kernel_rfl) rfl (by kernel_rfl) (by kernel_rfl) ?_
    refine WL.nil ?_
    refine EX.then_code ?_
    refine CW.ret ?_
    refine EX.ret1 (v := (.slice ao fs.length fs.length)) rfl (by kernel_rfl) ?_
    obtain rfl : k = came.length := by omega
    obtain ⟨h20, l20, G20, r20⟩ := o_out8.freeze G19
    exact Ret.mk ((l8.trans l19).trans l20) G20 (⟨ao, fs, rfl, r20, (all_up @whyG.mono (l19.trans l20) g_out8), by rw [hd, List.take_length]⟩)

theorem why_no {K : Key} {w : World} {h M0 M Mt : PH} (G : Wld K w h M) {t : Nat} {cv : Value} {rs : List RowD} (A : HeadL t cv rs M0 Mt) (hM : PH.le Mt M) {f : Int} (hf : ∀ r ∈ rs, r.fact ≠ f) :
    Calls Try.prog 9 #[.pointer (some ⟨t, 0, none⟩), .int .i64 f] w (Ret K h M fun _ v => v = .tuple #[.slice none 0 0, .bool false]) := by
  obtain ⟨bm, es, clk, Ma, Mb, Bt, Bm, Rs, mi⟩ := A
  have hl := ents_none hf
  refine enter (l := [(.pointer (some ⟨t, 0, none⟩)), (.int .i64 f)]) Try.func9 rfl Try.ntmps9 (Nat.le_of_ble_eq_true rfl) ?_
  simp only [params]
  refine CW.seq ?_
  refine CW.region ?_
  refine WL.q (.slice none 0 0) (by kernel_rfl) rfl (by kernel_rfl) (by kernel_rfl) ?_
  refine WL.q (.bool false) (by kernel_rfl) rfl (by kernel_rfl) (by kernel_rfl) ?_
  refine WL.nil ?_
  refine EX.then_code ?_
  refine CW.seq ?_
  refine CW.region ?_
  refine WL.q (.pointer (some ⟨t, 0, none⟩)) (by kernel_rfl) rfl (by kernel_rfl) (by kernel_rfl) ?_
  refine WL.q (.pointer (some ⟨t, 0, none⟩)) (by kernel_rfl) rfl (by kernel_rfl) (by kernel_rfl) ?_
  refine WL.q (.pointer (some ⟨t, 0, none⟩)) (by kernel_rfl) rfl (by kernel_rfl) (by kernel_rfl) ?_
  refine WL.q (.map (some bm)) (by kernel_rfl) rfl (by kernel_rfl) (q_load (off := 0) rfl (by kernel_rfl) (by kernel_rfl) (G.own _ _ (((Bm.le.trans (Ly.le (Ly.starL Ly.rowA rs) Rs)).trans hM) _ _ Bt.at)) (by kernel_rfl)) ?_
  refine WL.q (.int .i64 f) (by kernel_rfl) rfl (by kernel_rfl) (by kernel_rfl) ?_
  refine WL.q (.pointer none) (by kernel_rfl) rfl (by kernel_rfl) (q_lookup (k := f) false rfl mapT51 (by kernel_rfl) (by kernel_rfl) (G.own _ _ (((Ly.le (Ly.starL Ly.rowA rs) Rs).trans hM) _ _ Bm.at)) mi (by rw [hl]; rfl)) ?_
  refine WL.q (.pointer none) (by kernel_rfl) rfl (by kernel_rfl) (by kernel_rfl) ?_
  refine WL.nil ?_
  refine EX.then_code ?_
  refine CW.seq ?_
  refine CW.seq ?_
  refine CW.region ?_
  refine WL.q (.pointer none) (by kernel_rfl) rfl (by kernel_rfl) (by kernel_rfl) ?_
  refine WL.q (.bool true) (by kernel_rfl) rfl (by kernel_rfl) (by kernel_rfl) ?_
  refine WL.nil ?_
  refine EX.then_code ?_
  refine CW.cond_t (by kernel_rfl) (by kernel_rfl) ?_
  refine CW.seq ?_
  refine CW.region ?_
  refine WL.q (.slice none 0 0) (by kernel_rfl) rfl (by kernel_rfl) (by kernel_rfl) ?_
  refine WL.q (.bool false) (by kernel_rfl) rfl (by kernel_rfl) (by kernel_rfl) ?_
  refine WL.nil ?_
  refine EX.then_code ?_
  refine CW.ret ?_
  refine EX.ret_then ?_
  refine EX.ret2 (v := (.slice none 0 0)) (x := (.bool false)) rfl (by kernel_rfl) (by kernel_rfl) ?_
  exact Ret.mk (PH.le_refl _) G rfl

theorem why_yes {K : Key} {w : World} {h M0 M Mt : PH} (G : Wld K w h M) {t : Nat} {cv : Value} {rs : List RowD} (A : HeadL t cv rs M0 Mt) (hM : PH.le Mt M) (hn : (rs.map (·.fact)).Nodup) (ok1 : ∀ r ∈ rs, ∀ w ∈ r.ws, whyG h w) (ok2 : ∀ r ∈ rs, r.ws.length ≤ 1000) {k0 : Nat} (hk0 : k0 < rs.length) {f : Int} (hf : (rs.getD k0 rowD0).fact = f) :
    Calls Try.prog 9 #[.pointer (some ⟨t, 0, none⟩), .int .i64 f] w (Ret K h M fun h' v => ∃ a fs, v = .tuple #[.slice a fs.length fs.length, .bool (rs.getD k0 rowD0).free] ∧ RS h' whyE a fs ∧ (∀ f ∈ fs, whyG h' f) ∧ fs.map datW = (rs.getD k0 rowD0).ws.map datW) := by
  obtain ⟨bm, es, clk, Ma, Mb, Bt, Bm, Rs, mi⟩ := A
  have hl := ents_some hn hk0
  rw [hf] at hl
  obtain ⟨Nr, ⟨Nr2, Br, Or⟩, ler⟩ := Rs.read Ly.rowA rowD0 hk0
  have hlw := ok2 _ (getD_mem (d := rowD0) hk0)
  have okr : ∀ w ∈ (rs.getD k0 rowD0).ws, whyG h w := ok1 _ (getD_mem (d := rowD0) hk0)
  refine enter (l := [(.pointer (some ⟨t, 0, none⟩)), (.int .i64 f)]) Try.func9 rfl Try.ntmps9 (Nat.le_of_ble_eq_true rfl) ?_
  simp only [params]
  refine CW.seq ?_
  refine CW.region ?_
  refine WL.q (.slice none 0 0) (by kernel_rfl) rfl (by kernel_rfl) (by kernel_rfl) ?_
  refine WL.q (.bool false) (by kernel_rfl) rfl (by kernel_rfl) (by kernel_rfl) ?_
  refine WL.nil ?_
  refine EX.then_code ?_
  refine CW.seq ?_
  refine CW.region ?_
  refine WL.q (.pointer (some ⟨t, 0, none⟩)) (by kernel_rfl) rfl (by kernel_rfl) (by kernel_rfl) ?_
  refine WL.q (.pointer (some ⟨t, 0, none⟩)) (by kernel_rfl) rfl (by kernel_rfl) (by kernel_rfl) ?_
  refine WL.q (.pointer (some ⟨t, 0, none⟩)) (by kernel_rfl) rfl (by kernel_rfl) (by kernel_rfl) ?_
  refine WL.q (.map (some bm)) (by kernel_rfl) rfl (by kernel_rfl) (q_load (off := 0) rfl (by kernel_rfl) (by kernel_rfl) (G.own _ _ (((Bm.le.trans (Ly.le (Ly.starL Ly.rowA rs) Rs)).trans hM) _ _ Bt.at)) (by kernel_rfl)) ?_
  refine WL.q (.int .i64 f) (by kernel_rfl) rfl (by kernel_rfl) (by kernel_rfl) ?_
  refine WL.q (.pointer (some ⟨(rs.getD k0 rowD0).p, 0, none⟩)) (by kernel_rfl) rfl (by kernel_rfl) (q_lookup (k := f) false rfl mapT51 (by kernel_rfl) (by kernel_rfl) (G.own _ _ (((Ly.le (Ly.starL Ly.rowA rs) Rs).trans hM) _ _ Bm.at)) mi (by rw [hl]; rfl)) ?_
  refine WL.q (.pointer (some ⟨(rs.getD k0 rowD0).p, 0, none⟩)) (by kernel_rfl) rfl (by kernel_rfl) (by kernel_rfl) ?_
  refine WL.nil ?_
  refine EX.then_code ?_
  refine CW.seq ?_
  refine CW.seq ?_
  refine CW.region ?_
  refine WL.q (.pointer (some ⟨(rs.getD k0 rowD0).p, 0, none⟩)) (by kernel_rfl) rfl (by kernel_rfl) (by kernel_rfl) ?_
  refine WL.q (.bool false) (by kernel_rfl) rfl (by kernel_rfl) (by kernel_rfl) ?_
  refine WL.nil ?_
  refine EX.then_code ?_
  refine CW.cond_f (by kernel_rfl) (by kernel_rfl) ?_
  refine CW.skip ?_
  refine EX.then_code ?_
  refine CW.seq ?_
  refine CW.region ?_
  refine WL.q (.slice none 0 0) (by kernel_rfl) rfl (by kernel_rfl) (by kernel_rfl) ?_
  refine WL.nil ?_
  refine EX.then_code ?_
  refine CW.seq ?_
  refine CW.seq ?_
  refine CW.region ?_
  refine WL.q (.pointer (some ⟨(rs.getD k0 rowD0).p, 0, none⟩)) (by kernel_rfl) rfl (by kernel_rfl) (by kernel_rfl) ?_
  refine WL.q (.pointer (some ⟨(rs.getD k0 rowD0).p, 0, none⟩)) (by kernel_rfl) rfl (by kernel_rfl) (by kernel_rfl) ?_
  refine WL.q (.pointer (some ⟨(rs.getD k0 rowD0).p, 1, none⟩)) (by kernel_rfl) rfl (by kernel_rfl) (by kernel_rfl) ?_
  refine WL.q (.slice ((rs.getD k0 rowD0).a) ((rs.getD k0 rowD0).ws.length) ((rs.getD k0 rowD0).c)) (by kernel_rfl) rfl (by kernel_rfl) (q_load (off := 1) rfl (by kernel_rfl) (by kernel_rfl) (G.own _ _ ((Or.le.trans hM) _ _ Br.at)) (by kernel_rfl)) ?_
  refine WL.q (.int .i64 ((rs.getD k0 rowD0).ws.length : Int)) (by kernel_rfl) rfl (by kernel_rfl) (by kernel_rfl) ?_
  refine WL.q (.int .i64 0) (by kernel_rfl) rfl (by kernel_rfl) (by kernel_rfl) ?_
  refine WL.nil ?_
  refine EX.then_code ?_
  refine CW.block ?_
  refine CW.loop (β := Nat × List WhyD × Option Addr × Nat) (fun x_ => [(4, (.slice none 0 0)), (5, (.bool false)), (6, (.pointer (some ⟨(rs.getD k0 rowD0).p, 0, none⟩))), (7, (.slice x_.2.2.1 x_.2.1.length x_.2.2.2)), (21, (.slice ((rs.getD k0 rowD0).a) ((rs.getD k0 rowD0).ws.length) ((rs.getD k0 rowD0).c))), (22, (.int .i64 ((rs.getD k0 rowD0).ws.length : Int))), (23, (.int .i64 (x_.1 : Int)))]) (fun x_ w_ => ∃ h_ M0_, (PH.le h h_) ∧ (Wld K w_ h_ M0_) ∧ (Own 28 whyE M M0_ x_.2.2.1 x_.2.2.2 x_.2.1) ∧ (∀ e_ ∈ x_.2.1, whyG h_ e_) ∧ (x_.1 ≤ (rs.getD k0 rowD0).ws.length) ∧ (x_.2.1.map datW = ((rs.getD k0 rowD0).ws.take x_.1).map datW)) (fun x_ => (rs.getD k0 rowD0).ws.length - x_.1) ⟨0, [], none, 0⟩ ⟨(by kernel_rfl), (by kernel_rfl), (by kernel_rfl), (by kernel_rfl), (by kernel_rfl), (by kernel_rfl), (lk_int (x := 0) (by kernel_rfl) (by first | omega | (dsimp only; omega) | rfl | (dsimp only; rfl))), trivial⟩ ⟨h, M, (PH.le_refl _), G, (Own.nil 28 whyE M), all_nil, (by first | omega | assumption | (dsimp only [List.length_nil, List.length_append, List.length_cons]; omega)), rfl⟩ ?_
  rintro ⟨k, fs, ao, co⟩ w21 ⟨h21, M0_21, l21, G21, o_out21, g_out21, hk, hd⟩
  try dsimp only at *
  have hfl := map_len hd
  rw [List.length_take] at hfl
  refine CW.seq ?_
  refine CW.region ?_
  refine WL.q (.bool (decide ((k : Int) < ((rs.getD k0 rowD0).ws.length : Int)))) (by kernel_rfl) rfl (by kernel_rfl) (by kernel_rfl) ?_
  refine WL.nil ?_
  refine EX.then_code ?_
  refine CW.seq ?_
  refine CW.cond (decide ((k : Int) < ((rs.getD k0 rowD0).ws.length : Int))) (by kernel_rfl) (by kernel_rfl) (fun c22 => ?_) (fun c22 => ?_)
  ·
    skip
    have d23 := of_decide_eq_true c22
    refine CW.skip ?_
    refine EX.then_code ?_
    refine CW.seq ?_
    refine CW.block ?_
    refine CW.seq ?_
    refine CW.region ?_
    refine WL.q (eptr ((rs.getD k0 rowD0).a) (k * whyE.sz)) (by kernel_rfl) rfl (by kernel_rfl) (q_indexAddr (i := k) (E := whyE) (xs := ((rs.getD k0 rowD0).ws)) (e := 28) (c := ((rs.getD k0 rowD0).c)) (k := .i64) (m := ((rs.getD k0 rowD0).ws.length)) rfl rfl (by kernel_rfl) (by kernel_rfl) (by kernel_rfl) (Or.reads.mono ((hM.trans o_out21.le).trans G21.own)) (by omega)) ?_
    refine WL.q (.agg #[(.int .i64 (((((rs.getD k0 rowD0).ws).getD k whyE.dflt)).rule)), (.int .i64 (((((rs.getD k0 rowD0).ws).getD k whyE.dflt)).alt)), (.slice (((((rs.getD k0 rowD0).ws).getD k whyE.dflt)).a) (((((rs.getD k0 rowD0).ws).getD k whyE.dflt)).facts.length) (((((rs.getD k0 rowD0).ws).getD k whyE.dflt)).c))]) (by kernel_rfl) rfl (by kernel_rfl) (q_val (q_loadAgg_e (i := k) (E := whyE) rfl (by kernel_rfl) (by kernel_rfl) (Or.reads.mono ((hM.trans o_out21.le).trans G21.own)) (by omega)) (by kernel_rfl)) ?_
    refine WL.ex (by kernel_rfl) rfl (by kernel_rfl) (q_newB (ob := (.cells #[(.int .i64 0), (.int .i64 0), (.slice none 0 0)] 28 (0, 0))) G21 (fun b_ => .pointer (some ⟨b_, 0, none⟩)) (fun u_ => by kernel_rfl)) ?_
    rintro _ w24 ⟨b24, M24, rfl, G24, B24, L24⟩
    refine WL.exu (by kernel_rfl) rfl (by kernel_rfl) (q_storeB (off := 0) (et := 28) (v := (.agg #[(.int .i64 (((((rs.getD k0 rowD0).ws).getD k whyE.dflt)).rule)), (.int .i64 (((((rs.getD k0 rowD0).ws).getD k whyE.dflt)).alt)), (.slice (((((rs.getD k0 rowD0).ws).getD k whyE.dflt)).a) (((((rs.getD k0 rowD0).ws).getD k whyE.dflt)).facts.length) (((((rs.getD k0 rowD0).ws).getD k whyE.dflt)).c))])) (vs := [(.int .i64 (((((rs.getD k0 rowD0).ws).getD k whyE.dflt)).rule)), (.int .i64 (((((rs.getD k0 rowD0).ws).getD k whyE.dflt)).alt)), (.slice (((((rs.getD k0 rowD0).ws).getD k whyE.dflt)).a) (((((rs.getD k0 rowD0).ws).getD k whyE.dflt)).facts.length) (((((rs.getD k0 rowD0).ws).getD k whyE.dflt)).c))]) #[(.int .i64 (((((rs.getD k0 rowD0).ws).getD k whyE.dflt)).rule)), (.int .i64 (((((rs.getD k0 rowD0).ws).getD k whyE.dflt)).alt)), (.slice (((((rs.getD k0 rowD0).ws).getD k whyE.dflt)).a) (((((rs.getD k0 rowD0).ws).getD k whyE.dflt)).facts.length) (((((rs.getD k0 rowD0).ws).getD k whyE.dflt)).c))] G24 B24 rfl (by kernel_rfl) (by kernel_rfl) (by kernel_rfl) (by kernel_rfl) (by simp [Value.oneCell']) (by simp) (by kernel_rfl)) ?_
    rintro w25 ⟨M25, G25, B25⟩
    obtain ⟨h26, l26, G26, hb26⟩ := B25.freeze G25
    refine WL.nil ?_
    refine EX.then_code ?_
    refine CW.region ?_
    refine WL.q (.slice ao fs.length co) (by kernel_rfl) rfl (by kernel_rfl) (by kernel_rfl) ?_
    refine WL.q (.agg #[(.int .i64 (((((rs.getD k0 rowD0).ws).getD k whyE.dflt)).rule)), (.int .i64 (((((rs.getD k0 rowD0).ws).getD k whyE.dflt)).alt)), (.slice (((((rs.getD k0 rowD0).ws).getD k whyE.dflt)).a) (((((rs.getD k0 rowD0).ws).getD k whyE.dflt)).facts.length) (((((rs.getD k0 rowD0).ws).getD k whyE.dflt)).c))]) (by kernel_rfl) rfl (by kernel_rfl) (q_loadAgg (off := 0) (vs := [(.int .i64 (((((rs.getD k0 rowD0).ws).getD k whyE.dflt)).rule)), (.int .i64 (((((rs.getD k0 rowD0).ws).getD k whyE.dflt)).alt)), (.slice (((((rs.getD k0 rowD0).ws).getD k whyE.dflt)).a) (((((rs.getD k0 rowD0).ws).getD k whyE.dflt)).facts.length) (((((rs.getD k0 rowD0).ws).getD k whyE.dflt)).c))]) rfl (by kernel_rfl) (by kernel_rfl) (G26.imm _ _ ((PH.le_refl _) _ _ hb26)) (agg_at (by kernel_rfl))) ?_
    have hy20 := (okr _ (getD_mem (d := whyE.dflt) (show k < (rs.getD k0 rowD0).ws.length by omega))).2
    refine WL.call (by kernel_rfl) rfl (by kernel_rfl) (by kernel_rfl) (apart_spec (f := ((rs.getD k0 rowD0).ws.getD k whyE.dflt)) G26 (whyG.mono (l21.trans l26) _ (okr _ (getD_mem (d := whyE.dflt) (show k < (rs.getD k0 rowD0).ws.length by omega))))) (Ret.elim ?_)
    rintro w27 h27 _ l27 G27 ⟨a27, c27, rfl, q27⟩
    refine WL.ex (by kernel_rfl) rfl (by kernel_rfl) (q_newF (ob := (.cells #[(.int .i64 ((((rs.getD k0 rowD0).ws.getD k whyE.dflt)).rule)), (.int .i64 ((((rs.getD k0 rowD0).ws.getD k whyE.dflt)).alt)), (.slice a27 ((((rs.getD k0 rowD0).ws.getD k whyE.dflt)).facts.length) c27)] 28 (0, 0))) G27 (fun b_ => .slice (some ⟨b_, 0, none⟩) 1 1) (fun u_ => by kernel_rfl)) ?_
    rintro _ w28 ⟨b28, h28, rfl, l28, G28, hb28, L28⟩
    have r29 : RS h28 whyE (some ⟨b28, 0, none⟩) [(WhyD.mk ((((rs.getD k0 rowD0).ws.getD k whyE.dflt)).rule) ((((rs.getD k0 rowD0).ws.getD k whyE.dflt)).alt) a27 ((((rs.getD k0 rowD0).ws.getD k whyE.dflt)).facts) c27)] := RS.blk hb28 (by kernel_rfl)
    have g29 : ∀ e_ ∈ [(WhyD.mk ((((rs.getD k0 rowD0).ws.getD k whyE.dflt)).rule) ((((rs.getD k0 rowD0).ws.getD k whyE.dflt)).alt) a27 ((((rs.getD k0 rowD0).ws.getD k whyE.dflt)).facts) c27)], whyG h28 e_ := (all_one (show whyG h28 (WhyD.mk ((((rs.getD k0 rowD0).ws.getD k whyE.dflt)).rule) ((((rs.getD k0 rowD0).ws.getD k whyE.dflt)).alt) a27 ((((rs.getD k0 rowD0).ws.getD k whyE.dflt)).facts) c27) from ⟨(q27.1.mono l28), by omega⟩))
    refine WL.ex (by kernel_rfl) rfl (by kernel_rfl) (q_app (e := 28) (bytes := 40) (cap := co) (c2 := 1) (M0 := M) (xs := fs) (ys := ([(WhyD.mk ((((rs.getD k0 rowD0).ws.getD k whyE.dflt)).rule) ((((rs.getD k0 rowD0).ws.getD k whyE.dflt)).alt) a27 ((((rs.getD k0 rowD0).ws.getD k whyE.dflt)).facts) c27)])) G28 o_out21 (r29.mono ((PH.le_refl _).trans G28.imm)) rfl (by kernel_rfl) (by kernel_rfl) (by kernel_rfl) (by first | (simp only [maxLen, List.length_append, List.length_cons, List.length_nil]; omega) | (simp only [maxLen]; omega)) (by first | omega | (simp only [List.length_append, List.length_cons, List.length_nil]; omega))) ?_
    rintro _ w30 ⟨a30, k30, M30, rfl, G30, o30, z30⟩
    have g30 : ∀ e_ ∈ (fs ++ ([(WhyD.mk ((((rs.getD k0 rowD0).ws.getD k whyE.dflt)).rule) ((((rs.getD k0 rowD0).ws.getD k whyE.dflt)).alt) a27 ((((rs.getD k0 rowD0).ws.getD k whyE.dflt)).facts) c27)])), whyG h28 e_ := all_app (all_up @whyG.mono ((l26.trans l27).trans l28) g_out21) g29
    refine WL.q (.slice a30 ((fs ++ ([(WhyD.mk ((((rs.getD k0 rowD0).ws.getD k whyE.dflt)).rule) ((((rs.getD k0 rowD0).ws.getD k whyE.dflt)).alt) a27 ((((rs.getD k0 rowD0).ws.getD k whyE.dflt)).facts) c27)])).length) k30) (by kernel_rfl) rfl (by kernel_rfl) (by kernel_rfl) ?_
    refine WL.nil ?_
    refine EX.in_block ?_
    refine EX.then_code ?_
    refine CW.region ?_
    refine WL.q (.int .i64 ((k + 1 : Nat) : Int)) (by kernel_rfl) rfl (by kernel_rfl) (q_int (x := IntKind.i64.wrap ((k : Int) + 1)) (by kernel_rfl) (wrap_to (by omega) (by omega) (by omega))) ?_
    refine WL.q (.int .i64 ((k + 1 : Nat) : Int)) (by kernel_rfl) rfl (by kernel_rfl) (by kernel_rfl) ?_
    refine WL.nil ?_
    exact EX.then_loop ⟨k + 1, (fs ++ ([(WhyD.mk ((((rs.getD k0 rowD0).ws.getD k whyE.dflt)).rule) ((((rs.getD k0 rowD0).ws.getD k whyE.dflt)).alt) a27 ((((rs.getD k0 rowD0).ws.getD k whyE.dflt)).facts) c27)])), a30, k30⟩ ⟨(by kernel_rfl), (by kernel_rfl), (by kernel_rfl), (by kernel_rfl), (by kernel_rfl), (by kernel_rfl), (lk_int (x := ((k + 1 : Nat) : Int)) (by kernel_rfl) (by first | omega | (dsimp only; omega) | rfl | (dsimp only; rfl))), trivial⟩ ⟨h28, M30, (((l21.trans l26).trans l27).trans l28), G30, o30, g30, (by first | omega | assumption | (dsimp only [List.length_nil, List.length_append, List.length_cons]; omega)), (map_succ datW whyE.dflt (rs.getD k0 rowD0).ws fs (by omega) hd rfl)⟩ (by first | omega | (dsimp only; omega))
  ·
    skip
    have d31 := of_decide_eq_false c22
    refine CW.exit ?_
    refine EX.exit_then ?_
    refine EX.exit_then ?_
    refine EX.exit_here ?_
    refine EX.then_code ?_
    refine CW.seq ?_
    refine CW.draw (by kernel_rfl) [(5, fun w_ => PH.all w_ ((rs.getD k0 rowD0).p) = some (.cells #[.bool (rs.getD k0 rowD0).free, (.slice ((rs.getD k0 rowD0).a) ((rs.getD k0 rowD0).ws.length) ((rs.getD k0 rowD0).c))] 58 (0, 0)))] ?_
    refine DW.take (T := fun _ => True) 0 (.slice ao fs.length co) rfl (by kernel_rfl) rfl (by kernel_rfl) (.inl fun _ => trivial) (by kernel_rfl) (Deaf.thens (Deaf.body RetM.not_panicked)) (fun w_ _ => (by kernel_rfl)) trivial ?_
    refine DW.take (T := fun _ => True) 2 (.pointer (some ⟨(rs.getD k0 rowD0).p, 0, none⟩)) rfl (by kernel_rfl) rfl (by kernel_rfl) (.inl fun _ => trivial) (by kernel_rfl) (Deaf.thens (Deaf.body RetM.not_panicked)) (fun w_ _ => (by kernel_rfl)) trivial ?_
    refine DW.take (T := fun _ => True) 3 (.pointer (some ⟨(rs.getD k0 rowD0).p, 0, none⟩)) rfl (by kernel_rfl) rfl (by kernel_rfl) (.inl fun _ => trivial) (by kernel_rfl) (Deaf.thens (Deaf.body RetM.not_panicked)) (fun w_ _ => (by kernel_rfl)) trivial ?_
    refine DW.take (T := fun _ => True) 4 (.pointer (some ⟨(rs.getD k0 rowD0).p, 0, none⟩)) rfl (by kernel_rfl) rfl (by kernel_rfl) (.inl fun _ => trivial) (by kernel_rfl) (Deaf.thens (Deaf.body RetM.not_panicked)) (fun w_ _ => (by kernel_rfl)) trivial ?_
    refine DW.take (T := fun w_ => PH.all w_ ((rs.getD k0 rowD0).p) = some (.cells #[.bool (rs.getD k0 rowD0).free, (.slice ((rs.getD k0 rowD0).a) ((rs.getD k0 rowD0).ws.length) ((rs.getD k0 rowD0).c))] 58 (0, 0))) 5 (.bool ((rs.getD k0 rowD0).free)) rfl (by kernel_rfl) rfl (by kernel_rfl) (.inr (by first | exact .head _ | exact .tail _ (.head _) | exact .tail _ (.tail _ (.head _)) | exact .tail _ (.tail _ (.tail _ (.head _))) | simp)) (by kernel_rfl) (Deaf.thens (Deaf.body RetM.not_panicked)) (fun w_ T_ => (q_load (off := 0) rfl (by kernel_rfl) (by kernel_rfl) T_ (by kernel_rfl))) ((G21.drew).own _ _ (((Or.le.trans hM).trans o_out21.le) _ _ Br.at)) ?_
    refine DW.only 1 (by kernel_rfl) ?_
    refine DOp.call rfl (by kernel_rfl) rfl (by kernel_rfl) (by kernel_rfl) (clipW_spec (a := ao) (m := fs.length) (c := co) (G21.drew) (by have q_ := o_out21.cap_le; first | omega | (simp only [List.length_take, List.length_append, List.length_drop] at q_; omega))) (Ret.elimD (fun w32 h32 l32 G32 => ⟨.inr (fun _ => (G32.own _ _ (((Or.le.trans hM).trans o_out21.le) _ _ Br.at))), trivial⟩) ?_)
    rintro w32 h32 _ l32 G32 rfl
    refine DW.take (T := fun _ => True) 6 (.slice ao fs.length fs.length) rfl (by kernel_rfl) rfl (by kernel_rfl) (.inl fun _ => trivial) (by kernel_rfl) (Deaf.thens (Deaf.body RetM.not_panicked)) (fun w_ _ => (by kernel_rfl)) trivial ?_
    refine DW.take (T := fun _ => True) 7 (.bool ((rs.getD k0 rowD0).free)) rfl (by kernel_rfl) rfl (by kernel_rfl) (.inl fun _ => trivial) (by kernel_rfl) (Deaf.thens (Deaf.body RetM.not_panicked)) (fun w_ _ => (by kernel_rfl)) trivial ?_
    refine DW.done (by kernel_rfl) ?_
    refine EX.then_code ?_
    refine CW.ret ?_
    refine EX.ret2 (v := (.slice ao fs.length fs.length)) (x := (.bool ((rs.getD k0 rowD0).free))) rfl (by kernel_rfl) (by kernel_rfl) ?_
    obtain rfl : k = (rs.getD k0 rowD0).ws.length := by omega
    obtain ⟨h33, l33, G33, r33⟩ := o_out21.freeze G32
    exact Ret.mk ((l21.trans l32).trans l33) G33 (⟨ao, fs, rfl, r33, (all_up @whyG.mono (l32.trans l33) g_out21), by rw [hd, List.take_length]⟩)
end Go.Proofs
