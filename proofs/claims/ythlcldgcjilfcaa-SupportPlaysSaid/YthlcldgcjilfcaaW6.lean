import Derived.Test.YthlcldgcjilfcaaPw
namespace Go.Proofs
open Go Go.Wk
/-- An act of a play. -/
structure ActD where
  op : Int
  fact : Int
  w : WhyD
def actE : Enc ActD := ⟨5, fun t => [.int .i64 t.op, .int .i64 t.fact, .int .i64 t.w.rule, .int .i64 t.w.alt, .slice t.w.a t.w.facts.length t.w.c], ⟨0, 0, whyE.dflt⟩, by decide, fun _ => rfl, fun _ v hv => by
  simp only [List.mem_cons, List.not_mem_nil, or_false] at hv; rcases hv with rfl | rfl | rfl | rfl | rfl <;> rfl⟩
def actG (h : PH) (f : ActD) : Prop := whyR h f.w
theorem actG.mono {h h' : PH} (hl : PH.le h h') (f : ActD) (g : actG h f) : actG h' f := whyR.mono hl f.w g
theorem at_cases (row : List StandD) (f : Int) : (idxF (fun s => s.fact == f) row = -1 ∧ ∀ s ∈ row, s.fact ≠ f) ∨ ∃ k, k < row.length ∧ idxF (fun s => s.fact == f) row = (k : Int) ∧ (row.getD k standE.dflt).fact = f := by
  rcases idxF_cases (fun s : StandD => s.fact == f) row standE.dflt with ⟨h1, h2⟩ | ⟨k, h1, h2, h3, _⟩
  · exact .inl ⟨h1, fun s hs => by simpa using h2 s hs⟩
  · exact .inr ⟨k, h1, h2, by simpa using h3⟩
theorem mem_rx {rw : List StandD} {s0 : StandD} {q : StandD → Prop} (h : ∀ s ∈ rw, q s) (h0 : q s0) : ∀ s ∈ ([] ++ rw) ++ [s0], q s := by
  intro s hs
  rw [List.nil_append] at hs
  rcases List.mem_append.1 hs with hs | hs
  · exact h s hs
  · simp only [List.mem_cons, List.not_mem_nil, or_false] at hs; subst hs; exact h0

theorem DsOk.cast {ds ds' : List RowT} {cm : List WD} (e : ds = ds') (h : DsOk ds cm) : DsOk ds' cm := e ▸ h
theorem none_in {s : StandD} {y : WhyD} (h : ∀ x ∈ s.ws, (fun x => sameW x y) x = false) : datW y ∉ (absS s).2.2 := by
  intro hm
  obtain ⟨x, hx, e⟩ := List.mem_map.1 hm
  exact sameW_ne.1 (h x hx) e
theorem one_in {s : StandD} {y : WhyD} {k : Nat} (hk : k < s.ws.length) (h : (fun x => sameW x y) (s.ws.getD k whyE.dflt) = true) : datW y ∈ (absS s).2.2 :=
  List.mem_map.2 ⟨_, getD_mem hk, sameW_iff.1 h⟩
theorem getD_setS {rs : List StandD} {i : Nat} (hi : i < rs.length) (r : StandD) : (rs.set i r).getD i standE.dflt = r := by simp [List.getD, hi]
theorem cutJ_mem {ds : List RowT} {w : WD} {j : Nat} {d : RowT} (h : d ∈ CutJ ds w j) : ∃ d' ∈ ds, d = d' ∨ d = cutA w d' := by
  rcases List.mem_append.1 h with h | h
  · obtain ⟨d', hd', rfl⟩ := List.mem_map.1 h
    exact ⟨d', List.mem_of_mem_take hd', .inr rfl⟩
  · exact ⟨d, List.mem_of_mem_drop h, .inl rfl⟩
theorem cutJ_lens {rj rw : List StandD} {w : WD} {j i : Nat} (hr : rj.map absS = CutJ (rw.map absS) w j) (h : ∀ s ∈ rw, s.ws.length ≤ i) : ∀ s ∈ rj, s.ws.length ≤ i := by
  intro s hs
  have h1 : absS s ∈ CutJ (rw.map absS) w j := hr ▸ List.mem_map_of_mem hs
  obtain ⟨d, hd, e⟩ := cutJ_mem h1
  obtain ⟨q, hq, rfl⟩ := List.mem_map.1 hd
  have h2 := h q hq
  have e2 : s.ws.length = (absS s).2.2.length := by simp [absS]
  rcases e with e | e
  · rw [e2, e]; simpa [absS] using h2
  · rw [e2, e]; exact Nat.le_trans (List.length_filter_le _ _) (by simpa [absS] using h2)
theorem cutJ_nodup {rj rw : List StandD} {w : WD} {j : Nat} (hr : rj.map absS = CutJ (rw.map absS) w j) (h : ∀ d ∈ rw.map absS, d.2.2.Nodup) : ∀ s ∈ rj, (s.ws.map datW).Nodup := by
  intro s hs
  have h1 : absS s ∈ CutJ (rw.map absS) w j := hr ▸ List.mem_map_of_mem hs
  obtain ⟨d, hd, e⟩ := cutJ_mem h1
  have h2 := h d hd
  show (absS s).2.2.Nodup
  rcases e with e | e
  · rw [e]; exact h2
  · rw [e]; exact h2.filter _

set_option maxHeartbeats 1000000 in
theorem plays_spec {K : Key} {w : World} {h M : PH} (G : Wld K w h M) {a : Option Addr} {l : List ActD} {c : Nat} (Hl : RS h actE a l) (Gl : ∀ x ∈ l, actG h x) (hc : l.length ≤ 9223372036854775807)
    (hfl : ∀ x ∈ l, (-9223372036854775808 ≤ x.fact ∧ x.fact ≤ 9223372036854775807) ∧ x.w.facts.length ≤ 9223372036854775807) :
    Calls Try.prog 4 #[.slice a l.length c] w (Ret K h M fun _ v => v = .bool true) := by
 refine enter (l := [(.slice a l.length c)]) Try.func4 rfl Try.ntmps4 (Nat.le_of_ble_eq_true rfl) ?_
 simp only [params]
 refine CW.seq ?_
 refine CW.region ?_
 refine WL.q (.bool false) (by kernel_rfl) rfl (by kernel_rfl) (by kernel_rfl) ?_
 refine WL.nil ?_
 refine EX.then_code ?_
 refine CW.seq ?_
 refine CW.seq ?_
 refine CW.region ?_
 refine WL.call (by kernel_rfl) rfl (by kernel_rfl) (by kernel_rfl) (known_spec G) (Ret.elim ?_)
 rintro w1 h1 _ l1 G1 rfl
 refine WL.q (.bool false) (by kernel_rfl) rfl (by kernel_rfl) (by kernel_rfl) ?_
 refine WL.nil ?_
 refine EX.then_code ?_
 refine CW.cond_f (by kernel_rfl) (by kernel_rfl) ?_
 refine CW.skip ?_
 refine EX.then_code ?_
 refine CW.seq ?_
 refine CW.seq ?_
 refine CW.region ?_
 refine WL.q (.slice a l.length c) (by kernel_rfl) rfl (by kernel_rfl) (by kernel_rfl) ?_
 refine WL.q (.int .i64 (l.length : Int)) (by kernel_rfl) rfl (by kernel_rfl) (by kernel_rfl) ?_
 refine WL.q (.bool (decide ((l.length : Int) > 80))) (by kernel_rfl) rfl (by kernel_rfl) (by kernel_rfl) ?_
 refine WL.nil ?_
 refine EX.then_code ?_
 refine CW.cond (decide ((l.length : Int) > 80)) (by kernel_rfl) (by kernel_rfl) (fun c2 => ?_) (fun c2 => ?_)
 ·
  skip
  have d3 := of_decide_eq_true c2
  refine CW.seq ?_
  refine CW.region ?_
  refine WL.q (.bool true) (by kernel_rfl) rfl (by kernel_rfl) (by kernel_rfl) ?_
  refine WL.nil ?_
  refine EX.then_code ?_
  refine CW.ret ?_
  refine EX.ret_then ?_
  refine EX.ret1 (v := (.bool true)) rfl (by kernel_rfl) ?_
  exact Ret.mk l1 G1 rfl
 ·
  skip
  have d4 := of_decide_eq_false c2
  refine CW.skip ?_
  refine EX.then_code ?_
  refine CW.seq ?_
  refine CW.region ?_
  refine WL.call (by kernel_rfl) rfl (by kernel_rfl) (by kernel_rfl) (newA G1) (RetM.elim ?_)
  rintro w5 h5 M5 _ l5 G5 ⟨t, rfl, A5⟩
  refine WL.q (.pointer (some ⟨t, 0, none⟩)) (by kernel_rfl) rfl (by kernel_rfl) (by kernel_rfl) ?_
  refine WL.nil ?_
  refine EX.then_code ?_
  refine CW.seq ?_
  refine CW.region ?_
  refine WL.q (.slice none 0 0) (by kernel_rfl) rfl (by kernel_rfl) (by kernel_rfl) ?_
  refine WL.nil ?_
  refine EX.then_code ?_
  refine CW.seq ?_
  refine CW.seq ?_
  refine CW.region ?_
  refine WL.q (.int .i64 0) (by kernel_rfl) rfl (by kernel_rfl) (by kernel_rfl) ?_
  refine WL.nil ?_
  refine EX.then_code ?_
  refine CW.block ?_
  refine CW.loop (β := Nat × List StandD × Option Addr × Nat × List WD) (fun x_ => [(0, (.slice a l.length c)), (3, (.pointer (some ⟨t, 0, none⟩))), (4, (.slice x_.2.2.1 x_.2.1.length x_.2.2.2.1)), (5, (.int .i64 (x_.1 : Int)))]) (fun x_ w_ => ∃ h_ M0_ M1_, (PH.le h5 h_) ∧ (Wld K w_ h_ M1_) ∧ (TabA h_ t (x_.2.1.map absS) x_.2.2.2.2 x_.1 M M0_) ∧ (Own 43 standE M0_ M1_ x_.2.2.1 x_.2.2.2.1 x_.2.1) ∧ (∀ e_ ∈ x_.2.1, standG h_ e_) ∧ (x_.1 ≤ l.length) ∧ (DsOk (x_.2.1.map absS) x_.2.2.2.2)) (fun x_ => l.length - x_.1) ⟨0, [], none, 0, []⟩ ⟨(by kernel_rfl), (by kernel_rfl), (by kernel_rfl), (lk_int (x := 0) (by kernel_rfl) (by first | omega | (dsimp only; omega) | rfl | (dsimp only; rfl))), trivial⟩ ⟨h5, M5, M5, (PH.le_refl _), G5, ((show ([] : List RowT) = ([] : List StandD).map absS from rfl) ▸ A5), (Own.nil 43 standE M5), all_nil, (by first | omega | assumption | (dsimp only [List.length_nil, List.length_append, List.length_cons]; omega)), DsOk.nil⟩ ?_
  rintro ⟨i, rw, ao, co, cm⟩ w6 ⟨h6, M0_6, M1_6, l6, G6, o_tab6, o_row6, g_row6, hi, hok⟩
  try dsimp only at *
  have hrl : rw.length ≤ i := by have q_ := (o_tab6.ok).2.1; rw [List.length_map] at q_; exact q_
  have hwl : ∀ s ∈ rw, s.ws.length ≤ i := fun s hs => by have q_ := o_tab6.lens _ (List.mem_map_of_mem (f := absS) hs); simpa [absS] using q_
  refine CW.seq ?_
  refine CW.seq ?_
  refine CW.region ?_
  refine WL.q (.int .i64 (i : Int)) (by kernel_rfl) rfl (by kernel_rfl) (by kernel_rfl) ?_
  refine WL.q (.slice a l.length c) (by kernel_rfl) rfl (by kernel_rfl) (by kernel_rfl) ?_
  refine WL.q (.int .i64 (l.length : Int)) (by kernel_rfl) rfl (by kernel_rfl) (by kernel_rfl) ?_
  refine WL.q (.bool (decide ((i : Int) < (l.length : Int)))) (by kernel_rfl) rfl (by kernel_rfl) (by kernel_rfl) ?_
  refine WL.nil ?_
  refine EX.then_code ?_
  refine CW.cond (decide ((i : Int) < (l.length : Int))) (by kernel_rfl) (by kernel_rfl) (fun c7 => ?_) (fun c7 => ?_)
  ·
   skip
   have d8 := of_decide_eq_true c7
   refine CW.skip ?_
   refine EX.then_code ?_
   refine CW.seq ?_
   refine CW.block ?_
   refine CW.seq ?_
   refine CW.region ?_
   refine WL.q (.slice a l.length c) (by kernel_rfl) rfl (by kernel_rfl) (by kernel_rfl) ?_
   refine WL.q (.int .i64 (i : Int)) (by kernel_rfl) rfl (by kernel_rfl) (by kernel_rfl) ?_
   refine WL.q (eptr a (i * actE.sz)) (by kernel_rfl) rfl (by kernel_rfl) (q_indexAddr (i := i) (E := actE) (xs := l) (e := 40) (c := c) (k := .i64) (m := l.length) rfl rfl (by kernel_rfl) (by kernel_rfl) (by kernel_rfl) (Hl.mono (((l1.trans l5).trans l6).trans G6.imm)) (by omega)) ?_
   refine WL.q (.agg #[(.int .i64 (((l.getD i actE.dflt)).op)), (.int .i64 (((l.getD i actE.dflt)).fact)), (.int .i64 ((((l.getD i actE.dflt)).w).rule)), (.int .i64 ((((l.getD i actE.dflt)).w).alt)), (.slice ((((l.getD i actE.dflt)).w).a) ((((l.getD i actE.dflt)).w).facts.length) ((((l.getD i actE.dflt)).w).c))]) (by kernel_rfl) rfl (by kernel_rfl) (q_val (q_loadAgg_e (i := i) (E := actE) rfl (by kernel_rfl) (by kernel_rfl) (Hl.mono (((l1.trans l5).trans l6).trans G6.imm)) (by omega)) (by kernel_rfl)) ?_
   refine WL.ex (by kernel_rfl) rfl (by kernel_rfl) (q_newB (ob := (.cells #[(.int .i64 0), (.int .i64 0), (.int .i64 0), (.int .i64 0), (.slice none 0 0)] 40 (0, 0))) G6 (fun b_ => .pointer (some ⟨b_, 0, none⟩)) (fun u_ => by kernel_rfl)) ?_
   rintro _ w9 ⟨b9, M9, rfl, G9, B9, L9⟩
   refine WL.exu (by kernel_rfl) rfl (by kernel_rfl) (q_storeB (off := 0) (et := 40) (v := (.agg #[(.int .i64 (((l.getD i actE.dflt)).op)), (.int .i64 (((l.getD i actE.dflt)).fact)), (.int .i64 ((((l.getD i actE.dflt)).w).rule)), (.int .i64 ((((l.getD i actE.dflt)).w).alt)), (.slice ((((l.getD i actE.dflt)).w).a) ((((l.getD i actE.dflt)).w).facts.length) ((((l.getD i actE.dflt)).w).c))])) (vs := [(.int .i64 (((l.getD i actE.dflt)).op)), (.int .i64 (((l.getD i actE.dflt)).fact)), (.int .i64 ((((l.getD i actE.dflt)).w).rule)), (.int .i64 ((((l.getD i actE.dflt)).w).alt)), (.slice ((((l.getD i actE.dflt)).w).a) ((((l.getD i actE.dflt)).w).facts.length) ((((l.getD i actE.dflt)).w).c))]) #[(.int .i64 (((l.getD i actE.dflt)).op)), (.int .i64 (((l.getD i actE.dflt)).fact)), (.int .i64 ((((l.getD i actE.dflt)).w).rule)), (.int .i64 ((((l.getD i actE.dflt)).w).alt)), (.slice ((((l.getD i actE.dflt)).w).a) ((((l.getD i actE.dflt)).w).facts.length) ((((l.getD i actE.dflt)).w).c))] G9 B9 rfl (by kernel_rfl) (by kernel_rfl) (by kernel_rfl) (by kernel_rfl) (by simp [Value.oneCell']) (by simp) (by kernel_rfl)) ?_
   rintro w10 ⟨M10, G10, B10⟩
   obtain ⟨h11, l11, G11, hb11⟩ := B10.freeze G10
   refine WL.nil ?_
   refine EX.then_code ?_
   refine CW.seq ?_
   refine CW.seq ?_
   refine CW.region ?_
   refine WL.q (.pointer (some ⟨b9, 2, none⟩)) (by kernel_rfl) rfl (by kernel_rfl) (by kernel_rfl) ?_
   refine WL.q (.pointer (some ⟨b9, 4, none⟩)) (by kernel_rfl) rfl (by kernel_rfl) (by kernel_rfl) ?_
   refine WL.q (.slice ((((l.getD i actE.dflt)).w).a) ((((l.getD i actE.dflt)).w).facts.length) ((((l.getD i actE.dflt)).w).c)) (by kernel_rfl) rfl (by kernel_rfl) (q_load (off := 4) rfl (by kernel_rfl) (by kernel_rfl) (G11.imm _ _ ((PH.le_refl _) _ _ hb11)) (by kernel_rfl)) ?_
   refine WL.q (.int .i64 ((((l.getD i actE.dflt)).w).facts.length : Int)) (by kernel_rfl) rfl (by kernel_rfl) (by kernel_rfl) ?_
   refine WL.q (.bool (decide (((((l.getD i actE.dflt)).w).facts.length : Int) > 20))) (by kernel_rfl) rfl (by kernel_rfl) (by kernel_rfl) ?_
   refine WL.nil ?_
   refine EX.then_code ?_
   refine CW.cond (decide (((((l.getD i actE.dflt)).w).facts.length : Int) > 20)) (by kernel_rfl) (by kernel_rfl) (fun c12 => ?_) (fun c12 => ?_)
   ·
    skip
    have d13 := of_decide_eq_true c12
    refine CW.seq ?_
    refine CW.region ?_
    refine WL.q (.bool true) (by kernel_rfl) rfl (by kernel_rfl) (by kernel_rfl) ?_
    refine WL.nil ?_
    refine EX.then_code ?_
    refine CW.ret ?_
    refine EX.ret_then ?_
    refine EX.ret_block ?_
    refine EX.ret_then ?_
    refine EX.ret_then ?_
    refine EX.ret_block ?_
    refine EX.ret_then ?_
    refine EX.ret1 (v := (.bool true)) rfl (by kernel_rfl) ?_
    obtain ⟨N14, s15, s16⟩ : ∃ N_, Own 43 standE M N_ ao co rw ∧ TabA h6 t (rw.map absS) cm i N_ M1_6 := Ly.swap (lyTabA h6 t (rw.map absS) cm i) (Ly.own (E := standE) 43 ao co rw) o_tab6 o_row6
    obtain ⟨N17, s18, s19⟩ : ∃ N_, TabA h6 t (rw.map absS) cm i M N_ ∧ Own 43 standE N_ M1_6 ao co rw := Ly.swap (Ly.own (E := standE) 43 ao co rw) (lyTabA h6 t (rw.map absS) cm i) s15 s16
    exact Ret.mk (((l1.trans l5).trans l6).trans l11) (G11.drop ((Ly.le (lyTabA h6 t (rw.map absS) cm i) s18).trans s19.le)) rfl
   ·
    skip
    have d20 := of_decide_eq_false c12
    refine CW.skip ?_
    refine EX.then_code ?_
    refine CW.seq ?_
    refine CW.region ?_
    refine WL.q (.slice ao rw.length co) (by kernel_rfl) rfl (by kernel_rfl) (by kernel_rfl) ?_
    refine WL.q (.pointer (some ⟨b9, 1, none⟩)) (by kernel_rfl) rfl (by kernel_rfl) (by kernel_rfl) ?_
    refine WL.q (.int .i64 (((l.getD i actE.dflt)).fact)) (by kernel_rfl) rfl (by kernel_rfl) (q_load (off := 1) rfl (by kernel_rfl) (by kernel_rfl) (G11.imm _ _ ((PH.le_refl _) _ _ hb11)) (by kernel_rfl)) ?_
    refine WL.call (by kernel_rfl) rfl (by kernel_rfl) (by kernel_rfl) (at_spec G11 (PH.le_refl _) o_row6 (by omega) ((l.getD i actE.dflt)).fact) (Ret.elim ?_)
    rintro w21 h21 _ l21 G21 rfl
    refine WL.q (.int .i64 (idxF (fun s => s.fact == ((l.getD i actE.dflt)).fact) rw)) (by kernel_rfl) rfl (by kernel_rfl) (by kernel_rfl) ?_
    refine WL.nil ?_
    refine EX.then_code ?_
    refine CW.seq ?_
    refine CW.seq ?_
    refine CW.region ?_
    rcases at_cases rw ((l.getD i actE.dflt)).fact with ⟨ek, hno⟩ | ⟨k, hk, ek, hfk⟩
    ·
     skip
     refine WL.know 7 (.int .i64 (-1)) (x := (.int .i64 (idxF (fun s => s.fact == ((l.getD i actE.dflt)).fact) rw))) (by kernel_rfl) (congrArg (Value.int .i64) ek) ?_
     refine WL.q (.int .i64 (-1)) (by kernel_rfl) rfl (by kernel_rfl) (by kernel_rfl) ?_
     refine WL.q (.bool true) (by kernel_rfl) rfl (by kernel_rfl) (by kernel_rfl) ?_
     refine WL.q (.bool true) (by kernel_rfl) rfl (by kernel_rfl) (by kernel_rfl) ?_
     refine WL.q (.pointer (some ⟨b9, 0, none⟩)) (by kernel_rfl) rfl (by kernel_rfl) (by kernel_rfl) ?_
     refine WL.q (.int .i64 (((l.getD i actE.dflt)).op)) (by kernel_rfl) rfl (by kernel_rfl) (q_load (off := 0) rfl (by kernel_rfl) (by kernel_rfl) (G21.imm _ _ (l21 _ _ hb11)) (by kernel_rfl)) ?_
     refine WL.q (.bool ((((l.getD i actE.dflt)).op : Int) == 1)) (by kernel_rfl) rfl (by kernel_rfl) (by kernel_rfl) ?_
     refine WL.q (.bool ((((l.getD i actE.dflt)).op : Int) == 1)) (by kernel_rfl) rfl (by kernel_rfl) (by kernel_rfl) ?_
     rcases bool_cases ((((l.getD i actE.dflt)).op : Int) == 1) with c22 | c22
     ·
      skip
      have d23 := eq_of_beq c22
      refine WL.know 43 (.bool true) (x := .bool ((((l.getD i actE.dflt)).op : Int) == 1)) (by kernel_rfl) (congrArg Value.bool c22) ?_
      refine WL.skip (by kernel_rfl) rfl (by kernel_rfl) ?_
      refine WL.skip (by kernel_rfl) rfl (by kernel_rfl) ?_
      refine WL.skip (by kernel_rfl) rfl (by kernel_rfl) ?_
      refine WL.q (.bool true) (by kernel_rfl) rfl (by kernel_rfl) (by kernel_rfl) ?_
      refine WL.q (.bool true) (by kernel_rfl) rfl (by kernel_rfl) (by kernel_rfl) ?_
      refine WL.nil ?_
      refine EX.then_code ?_
      refine CW.cond_t (by kernel_rfl) (by kernel_rfl) ?_
      refine CW.cut (β := List StandD × Option Addr × Nat) (fun x_ => [(0, (.slice a l.length c)), (3, (.pointer (some ⟨t, 0, none⟩))), (4, (.slice x_.2.1 x_.1.length x_.2.2)), (5, (.int .i64 (i : Int))), (6, (.pointer (some ⟨b9, 0, none⟩))), (7, (.int .i64 (-1)))]) (fun x_ w_ => ∃ h_ M0_ M1_, (PH.le h21 h_) ∧ (Wld K w_ h_ M1_) ∧ (TabA h_ t (rw.map absS) cm i M M0_) ∧ (Own 43 standE M0_ M1_ x_.2.1 x_.2.2 x_.1) ∧ (∀ e_ ∈ x_.1, standG h_ e_) ∧ (x_.1 = (([] ++ rw) ++ [StandD.mk ((l.getD i actE.dflt)).fact false none [] 0]))) ?_ ?_
      ·
       skip
       refine CW.draw (by kernel_rfl) [(4, fun w_ => PH.all w_ b9 = some (.cells #[(.int .i64 (((l.getD i actE.dflt)).op)), (.int .i64 (((l.getD i actE.dflt)).fact)), (.int .i64 ((((l.getD i actE.dflt)).w).rule)), (.int .i64 ((((l.getD i actE.dflt)).w).alt)), (.slice ((((l.getD i actE.dflt)).w).a) ((((l.getD i actE.dflt)).w).facts.length) ((((l.getD i actE.dflt)).w).c))] 40 (0, 0)))] ?_
       refine DW.take (T := fun _ => True) 1 (.slice ao rw.length co) rfl (by kernel_rfl) rfl (by kernel_rfl) (.inl fun _ => trivial) (by kernel_rfl) (Deaf.thens (Deaf.thens (Deaf.block (Deaf.thens (Deaf.thens (Deaf.block (Deaf.thens (Deaf.body RetM.not_panicked)))))))) (fun w_ _ => (by kernel_rfl)) trivial ?_
       refine DW.take (T := fun _ => True) 3 (.pointer (some ⟨b9, 1, none⟩)) rfl (by kernel_rfl) rfl (by kernel_rfl) (.inl fun _ => trivial) (by kernel_rfl) (Deaf.thens (Deaf.thens (Deaf.block (Deaf.thens (Deaf.thens (Deaf.block (Deaf.thens (Deaf.body RetM.not_panicked)))))))) (fun w_ _ => (by kernel_rfl)) trivial ?_
       refine DW.take (T := fun w_ => PH.all w_ b9 = some (.cells #[(.int .i64 (((l.getD i actE.dflt)).op)), (.int .i64 (((l.getD i actE.dflt)).fact)), (.int .i64 ((((l.getD i actE.dflt)).w).rule)), (.int .i64 ((((l.getD i actE.dflt)).w).alt)), (.slice ((((l.getD i actE.dflt)).w).a) ((((l.getD i actE.dflt)).w).facts.length) ((((l.getD i actE.dflt)).w).c))] 40 (0, 0))) 4 (.int .i64 (((l.getD i actE.dflt)).fact)) rfl (by kernel_rfl) rfl (by kernel_rfl) (.inr (by first | exact .head _ | exact .tail _ (.head _) | exact .tail _ (.tail _ (.head _)) | exact .tail _ (.tail _ (.tail _ (.head _))) | simp)) (by kernel_rfl) (Deaf.thens (Deaf.thens (Deaf.block (Deaf.thens (Deaf.thens (Deaf.block (Deaf.thens (Deaf.body RetM.not_panicked)))))))) (fun w_ T_ => (q_load (off := 1) rfl (by kernel_rfl) (by kernel_rfl) T_ (by kernel_rfl))) ((G21.drew).imm _ _ (l21 _ _ hb11)) ?_
       refine DW.take (T := fun _ => True) 5 (.agg #[(.int .i64 (((l.getD i actE.dflt)).fact)), (.bool false), (.slice none 0 0)]) rfl (by kernel_rfl) rfl (by kernel_rfl) (.inl fun _ => trivial) (by kernel_rfl) (Deaf.thens (Deaf.thens (Deaf.block (Deaf.thens (Deaf.thens (Deaf.block (Deaf.thens (Deaf.body RetM.not_panicked)))))))) (fun w_ _ => (by kernel_rfl)) trivial ?_
       refine DW.two 0 6 (by kernel_rfl) ?_ ?_
       ·
        skip
        refine DOp.ex rfl (by kernel_rfl) rfl (by kernel_rfl) (q_newB (ob := (.cells #[] 43 (0, 0))) (G21.drew) (fun b_ => .slice (some ⟨b_, 0, none⟩) 0 0) (fun u_ => by kernel_rfl)) (fun v_ w24 p_ => by obtain ⟨b24, M24, rfl, G24, B24, L24⟩ := p_; exact ⟨.inr (fun _ => (G24.imm _ _ (l21 _ _ hb11))), trivial⟩) ?_
        rintro _ w24 ⟨b24, M24, rfl, G24, B24, L24⟩
        have o24 : Own 43 standE M1_6 M24 (some ⟨b24, 0, none⟩) 0 ([] : List _) := Own.lit2 B24 (by kernel_rfl) (by kernel_rfl) (by decide)
        have g24 : ∀ e_ ∈ ([] : List _), standG h21 e_ := all_nil
        refine DW.two 2 6 (by kernel_rfl) ?_ ?_
        ·
         skip
         refine DOp.ex rfl (by kernel_rfl) rfl (by kernel_rfl) (q_app (e := 43) (bytes := 40) (cap := 0) (c2 := co) (M0 := M1_6) (xs := ([] : List _)) (ys := rw) G24 o24 (o_row6.reads.mono (o24.le.trans G24.own)) rfl (by kernel_rfl) (by kernel_rfl) (by kernel_rfl) (by first | (simp [maxLen]; omega) | (simp only [maxLen, List.length_append, List.length_cons, List.length_nil]; omega) | (simp only [maxLen, List.length_append, List.length_nil]; omega) | (simp only [maxLen, List.length_append, List.length_cons, List.length_nil, List.length_take, List.length_drop]; omega) | (simp only [maxLen]; omega)) (by first | omega | (simp; omega) | (simp only [List.length_append, List.length_cons, List.length_nil]; omega) | (simp only [List.length_append, List.length_cons, List.length_nil, List.length_take, List.length_drop]; omega))) (fun v_ w25 p_ => by obtain ⟨a25, k25, M25, rfl, G25, o25, z25⟩ := p_; exact ⟨.inr (fun _ => (G25.imm _ _ (l21 _ _ hb11))), trivial⟩) ?_
         rintro _ w25 ⟨a25, k25, M25, rfl, G25, o25, z25⟩
         have g25 : ∀ e_ ∈ ([] ++ rw), standG h21 e_ := all_app g24 (all_up @standG.mono (l11.trans l21) g_row6)
         refine DW.only 6 (by kernel_rfl) ?_
         refine DOp.ex rfl (by kernel_rfl) rfl (by kernel_rfl) (q_newF (ob := (.cells #[(.int .i64 (((l.getD i actE.dflt)).fact)), (.bool false), (.slice none 0 0)] 43 (0, 0))) G25 (fun b_ => .slice (some ⟨b_, 0, none⟩) 1 1) (fun u_ => by kernel_rfl)) (fun v_ w26 p_ => by obtain ⟨b26, h26, rfl, l26, G26, hb26, L26⟩ := p_; exact ⟨.inr (fun _ => (G26.imm _ _ ((l21.trans l26) _ _ hb11))), trivial⟩) ?_
         rintro _ w26 ⟨b26, h26, rfl, l26, G26, hb26, L26⟩
         have r27 : RS h26 standE (some ⟨b26, 0, none⟩) [(StandD.mk (((l.getD i actE.dflt)).fact) false none ([]) 0)] := RS.blk hb26 (by kernel_rfl)
         have g27 : ∀ e_ ∈ [(StandD.mk (((l.getD i actE.dflt)).fact) false none ([]) 0)], standG h26 e_ := (all_one (show standG h26 (StandD.mk (((l.getD i actE.dflt)).fact) false none ([]) 0) from ⟨(RS.nil _ _ _), all_nil, (by first | omega | (dsimp only; first | omega | assumption) | simp)⟩))
         refine DW.only 7 (by kernel_rfl) ?_
         refine DOp.ex rfl (by kernel_rfl) rfl (by kernel_rfl) (q_app (e := 43) (bytes := 40) (cap := k25) (c2 := 1) (M0 := M1_6) (xs := ([] ++ rw)) (ys := ([(StandD.mk (((l.getD i actE.dflt)).fact) false none ([]) 0)])) G26 o25 (r27.mono ((PH.le_refl _).trans G26.imm)) rfl (by kernel_rfl) (by kernel_rfl) (by kernel_rfl) (by first | (simp [maxLen]; omega) | (simp only [maxLen, List.length_append, List.length_cons, List.length_nil]; omega) | (simp only [maxLen, List.length_append, List.length_nil]; omega) | (simp only [maxLen, List.length_append, List.length_cons, List.length_nil, List.length_take, List.length_drop]; omega) | (simp only [maxLen]; omega)) (by first | omega | (simp; omega) | (simp only [List.length_append, List.length_cons, List.length_nil]; omega) | (simp only [List.length_append, List.length_cons, List.length_nil, List.length_take, List.length_drop]; omega))) (fun v_ w28 p_ => by obtain ⟨a28, k28, M28, rfl, G28, o28, z28⟩ := p_; exact ⟨.inr (fun _ => (G28.imm _ _ ((l21.trans l26) _ _ hb11))), trivial⟩) ?_
         rintro _ w28 ⟨a28, k28, M28, rfl, G28, o28, z28⟩
         have g28 : ∀ e_ ∈ (([] ++ rw) ++ ([(StandD.mk (((l.getD i actE.dflt)).fact) false none ([]) 0)])), standG h26 e_ := all_app (all_up @standG.mono l26 g25) g27
         refine DW.take (T := fun _ => True) 8 (.slice a28 ((([] ++ rw) ++ ([(StandD.mk (((l.getD i actE.dflt)).fact) false none ([]) 0)])).length) k28) rfl (by kernel_rfl) rfl (by kernel_rfl) (.inl fun _ => trivial) (by kernel_rfl) (Deaf.thens (Deaf.thens (Deaf.block (Deaf.thens (Deaf.thens (Deaf.block (Deaf.thens (Deaf.body RetM.not_panicked)))))))) (fun w_ _ => (by kernel_rfl)) trivial ?_
         refine DW.done (by kernel_rfl) ?_
         obtain ⟨N29, s30, s31⟩ : ∃ N_, Own 43 standE M0_6 N_ a28 k28 (([] ++ rw) ++ ([(StandD.mk (((l.getD i actE.dflt)).fact) false none ([]) 0)])) ∧ Own 43 standE N_ M28 ao co rw := Ly.swap (Ly.own (E := standE) 43 ao co rw) (Ly.own (E := standE) 43 a28 k28 (([] ++ rw) ++ ([(StandD.mk (((l.getD i actE.dflt)).fact) false none ([]) 0)]))) o_row6 o28
         exact EX.then_cut ⟨(([] ++ rw) ++ ([(StandD.mk (((l.getD i actE.dflt)).fact) false none ([]) 0)])), a28, k28⟩ ⟨(by kernel_rfl), (by kernel_rfl), (by kernel_rfl), (by kernel_rfl), (by kernel_rfl), (by kernel_rfl), trivial⟩ ⟨h26, M0_6, N29, l26, (G28.drop s31.le), (TabA.mono ((l11.trans l21).trans l26) o_tab6), s30, g28, rfl⟩
        ·
         skip
         refine DOp.ex rfl (by kernel_rfl) rfl (by kernel_rfl) (q_newF (ob := (.cells #[(.int .i64 (((l.getD i actE.dflt)).fact)), (.bool false), (.slice none 0 0)] 43 (0, 0))) G24 (fun b_ => .slice (some ⟨b_, 0, none⟩) 1 1) (fun u_ => by kernel_rfl)) (fun v_ w32 p_ => by obtain ⟨b32, h32, rfl, l32, G32, hb32, L32⟩ := p_; exact ⟨.inr (fun _ => (G32.imm _ _ ((l21.trans l32) _ _ hb11))), trivial⟩) ?_
         rintro _ w32 ⟨b32, h32, rfl, l32, G32, hb32, L32⟩
         have r33 : RS h32 standE (some ⟨b32, 0, none⟩) [(StandD.mk (((l.getD i actE.dflt)).fact) false none ([]) 0)] := RS.blk hb32 (by kernel_rfl)
         have g33 : ∀ e_ ∈ [(StandD.mk (((l.getD i actE.dflt)).fact) false none ([]) 0)], standG h32 e_ := (all_one (show standG h32 (StandD.mk (((l.getD i actE.dflt)).fact) false none ([]) 0) from ⟨(RS.nil _ _ _), all_nil, (by first | omega | (dsimp only; first | omega | assumption) | simp)⟩))
         refine DW.only 2 (by kernel_rfl) ?_
         refine DOp.ex rfl (by kernel_rfl) rfl (by kernel_rfl) (q_app (e := 43) (bytes := 40) (cap := 0) (c2 := co) (M0 := M1_6) (xs := ([] : List _)) (ys := rw) G32 o24 (o_row6.reads.mono (o24.le.trans G32.own)) rfl (by kernel_rfl) (by kernel_rfl) (by kernel_rfl) (by first | (simp [maxLen]; omega) | (simp only [maxLen, List.length_append, List.length_cons, List.length_nil]; omega) | (simp only [maxLen, List.length_append, List.length_nil]; omega) | (simp only [maxLen, List.length_append, List.length_cons, List.length_nil, List.length_take, List.length_drop]; omega) | (simp only [maxLen]; omega)) (by first | omega | (simp; omega) | (simp only [List.length_append, List.length_cons, List.length_nil]; omega) | (simp only [List.length_append, List.length_cons, List.length_nil, List.length_take, List.length_drop]; omega))) (fun v_ w34 p_ => by obtain ⟨a34, k34, M34, rfl, G34, o34, z34⟩ := p_; exact ⟨.inr (fun _ => (G34.imm _ _ ((l21.trans l32) _ _ hb11))), trivial⟩) ?_
         rintro _ w34 ⟨a34, k34, M34, rfl, G34, o34, z34⟩
         have g34 : ∀ e_ ∈ ([] ++ rw), standG h32 e_ := all_app (all_up @standG.mono l32 g24) (all_up @standG.mono ((l11.trans l21).trans l32) g_row6)
         refine DW.only 7 (by kernel_rfl) ?_
         refine DOp.ex rfl (by kernel_rfl) rfl (by kernel_rfl) (q_app (e := 43) (bytes := 40) (cap := k34) (c2 := 1) (M0 := M1_6) (xs := ([] ++ rw)) (ys := ([(StandD.mk (((l.getD i actE.dflt)).fact) false none ([]) 0)])) G34 o34 (r33.mono ((PH.le_refl _).trans G34.imm)) rfl (by kernel_rfl) (by kernel_rfl) (by kernel_rfl) (by first | (simp [maxLen]; omega) | (simp only [maxLen, List.length_append, List.length_cons, List.length_nil]; omega) | (simp only [maxLen, List.length_append, List.length_nil]; omega) | (simp only [maxLen, List.length_append, List.length_cons, List.length_nil, List.length_take, List.length_drop]; omega) | (simp only [maxLen]; omega)) (by first | omega | (simp; omega) | (simp only [List.length_append, List.length_cons, List.length_nil]; omega) | (simp only [List.length_append, List.length_cons, List.length_nil, List.length_take, List.length_drop]; omega))) (fun v_ w35 p_ => by obtain ⟨a35, k35, M35, rfl, G35, o35, z35⟩ := p_; exact ⟨.inr (fun _ => (G35.imm _ _ ((l21.trans l32) _ _ hb11))), trivial⟩) ?_
         rintro _ w35 ⟨a35, k35, M35, rfl, G35, o35, z35⟩
         have g35 : ∀ e_ ∈ (([] ++ rw) ++ ([(StandD.mk (((l.getD i actE.dflt)).fact) false none ([]) 0)])), standG h32 e_ := all_app g34 g33
         refine DW.take (T := fun _ => True) 8 (.slice a35 ((([] ++ rw) ++ ([(StandD.mk (((l.getD i actE.dflt)).fact) false none ([]) 0)])).length) k35) rfl (by kernel_rfl) rfl (by kernel_rfl) (.inl fun _ => trivial) (by kernel_rfl) (Deaf.thens (Deaf.thens (Deaf.block (Deaf.thens (Deaf.thens (Deaf.block (Deaf.thens (Deaf.body RetM.not_panicked)))))))) (fun w_ _ => (by kernel_rfl)) trivial ?_
         refine DW.done (by kernel_rfl) ?_
         obtain ⟨N36, s37, s38⟩ : ∃ N_, Own 43 standE M0_6 N_ a35 k35 (([] ++ rw) ++ ([(StandD.mk (((l.getD i actE.dflt)).fact) false none ([]) 0)])) ∧ Own 43 standE N_ M35 ao co rw := Ly.swap (Ly.own (E := standE) 43 ao co rw) (Ly.own (E := standE) 43 a35 k35 (([] ++ rw) ++ ([(StandD.mk (((l.getD i actE.dflt)).fact) false none ([]) 0)]))) o_row6 o35
         exact EX.then_cut ⟨(([] ++ rw) ++ ([(StandD.mk (((l.getD i actE.dflt)).fact) false none ([]) 0)])), a35, k35⟩ ⟨(by kernel_rfl), (by kernel_rfl), (by kernel_rfl), (by kernel_rfl), (by kernel_rfl), (by kernel_rfl), trivial⟩ ⟨h32, M0_6, N36, l32, (G35.drop s38.le), (TabA.mono ((l11.trans l21).trans l32) o_tab6), s37, g35, rfl⟩
       ·
        skip
        refine DOp.ex rfl (by kernel_rfl) rfl (by kernel_rfl) (q_newF (ob := (.cells #[(.int .i64 (((l.getD i actE.dflt)).fact)), (.bool false), (.slice none 0 0)] 43 (0, 0))) (G21.drew) (fun b_ => .slice (some ⟨b_, 0, none⟩) 1 1) (fun u_ => by kernel_rfl)) (fun v_ w39 p_ => by obtain ⟨b39, h39, rfl, l39, G39, hb39, L39⟩ := p_; exact ⟨.inr (fun _ => (G39.imm _ _ ((l21.trans l39) _ _ hb11))), trivial⟩) ?_
        rintro _ w39 ⟨b39, h39, rfl, l39, G39, hb39, L39⟩
        have r40 : RS h39 standE (some ⟨b39, 0, none⟩) [(StandD.mk (((l.getD i actE.dflt)).fact) false none ([]) 0)] := RS.blk hb39 (by kernel_rfl)
        have g40 : ∀ e_ ∈ [(StandD.mk (((l.getD i actE.dflt)).fact) false none ([]) 0)], standG h39 e_ := (all_one (show standG h39 (StandD.mk (((l.getD i actE.dflt)).fact) false none ([]) 0) from ⟨(RS.nil _ _ _), all_nil, (by first | omega | (dsimp only; first | omega | assumption) | simp)⟩))
        refine DW.only 0 (by kernel_rfl) ?_
        refine DOp.ex rfl (by kernel_rfl) rfl (by kernel_rfl) (q_newB (ob := (.cells #[] 43 (0, 0))) G39 (fun b_ => .slice (some ⟨b_, 0, none⟩) 0 0) (fun u_ => by kernel_rfl)) (fun v_ w41 p_ => by obtain ⟨b41, M41, rfl, G41, B41, L41⟩ := p_; exact ⟨.inr (fun _ => (G41.imm _ _ ((l21.trans l39) _ _ hb11))), trivial⟩) ?_
        rintro _ w41 ⟨b41, M41, rfl, G41, B41, L41⟩
        have o41 : Own 43 standE M1_6 M41 (some ⟨b41, 0, none⟩) 0 ([] : List _) := Own.lit2 B41 (by kernel_rfl) (by kernel_rfl) (by decide)
        have g41 : ∀ e_ ∈ ([] : List _), standG h39 e_ := all_nil
        refine DW.only 2 (by kernel_rfl) ?_
        refine DOp.ex rfl (by kernel_rfl) rfl (by kernel_rfl) (q_app (e := 43) (bytes := 40) (cap := 0) (c2 := co) (M0 := M1_6) (xs := ([] : List _)) (ys := rw) G41 o41 (o_row6.reads.mono (o41.le.trans G41.own)) rfl (by kernel_rfl) (by kernel_rfl) (by kernel_rfl) (by first | (simp [maxLen]; omega) | (simp only [maxLen, List.length_append, List.length_cons, List.length_nil]; omega) | (simp only [maxLen, List.length_append, List.length_nil]; omega) | (simp only [maxLen, List.length_append, List.length_cons, List.length_nil, List.length_take, List.length_drop]; omega) | (simp only [maxLen]; omega)) (by first | omega | (simp; omega) | (simp only [List.length_append, List.length_cons, List.length_nil]; omega) | (simp only [List.length_append, List.length_cons, List.length_nil, List.length_take, List.length_drop]; omega))) (fun v_ w42 p_ => by obtain ⟨a42, k42, M42, rfl, G42, o42, z42⟩ := p_; exact ⟨.inr (fun _ => (G42.imm _ _ ((l21.trans l39) _ _ hb11))), trivial⟩) ?_
        rintro _ w42 ⟨a42, k42, M42, rfl, G42, o42, z42⟩
        have g42 : ∀ e_ ∈ ([] ++ rw), standG h39 e_ := all_app g41 (all_up @standG.mono ((l11.trans l21).trans l39) g_row6)
        refine DW.only 7 (by kernel_rfl) ?_
        refine DOp.ex rfl (by kernel_rfl) rfl (by kernel_rfl) (q_app (e := 43) (bytes := 40) (cap := k42) (c2 := 1) (M0 := M1_6) (xs := ([] ++ rw)) (ys := ([(StandD.mk (((l.getD i actE.dflt)).fact) false none ([]) 0)])) G42 o42 (r40.mono ((PH.le_refl _).trans G42.imm)) rfl (by kernel_rfl) (by kernel_rfl) (by kernel_rfl) (by first | (simp [maxLen]; omega) | (simp only [maxLen, List.length_append, List.length_cons, List.length_nil]; omega) | (simp only [maxLen, List.length_append, List.length_nil]; omega) | (simp only [maxLen, List.length_append, List.length_cons, List.length_nil, List.length_take, List.length_drop]; omega) | (simp only [maxLen]; omega)) (by first | omega | (simp; omega) | (simp only [List.length_append, List.length_cons, List.length_nil]; omega) | (simp only [List.length_append, List.length_cons, List.length_nil, List.length_take, List.length_drop]; omega))) (fun v_ w43 p_ => by obtain ⟨a43, k43, M43, rfl, G43, o43, z43⟩ := p_; exact ⟨.inr (fun _ => (G43.imm _ _ ((l21.trans l39) _ _ hb11))), trivial⟩) ?_
        rintro _ w43 ⟨a43, k43, M43, rfl, G43, o43, z43⟩
        have g43 : ∀ e_ ∈ (([] ++ rw) ++ ([(StandD.mk (((l.getD i actE.dflt)).fact) false none ([]) 0)])), standG h39 e_ := all_app g42 g40
        refine DW.take (T := fun _ => True) 8 (.slice a43 ((([] ++ rw) ++ ([(StandD.mk (((l.getD i actE.dflt)).fact) false none ([]) 0)])).length) k43) rfl (by kernel_rfl) rfl (by kernel_rfl) (.inl fun _ => trivial) (by kernel_rfl) (Deaf.thens (Deaf.thens (Deaf.block (Deaf.thens (Deaf.thens (Deaf.block (Deaf.thens (Deaf.body RetM.not_panicked)))))))) (fun w_ _ => (by kernel_rfl)) trivial ?_
        refine DW.done (by kernel_rfl) ?_
        obtain ⟨N44, s45, s46⟩ : ∃ N_, Own 43 standE M0_6 N_ a43 k43 (([] ++ rw) ++ ([(StandD.mk (((l.getD i actE.dflt)).fact) false none ([]) 0)])) ∧ Own 43 standE N_ M43 ao co rw := Ly.swap (Ly.own (E := standE) 43 ao co rw) (Ly.own (E := standE) 43 a43 k43 (([] ++ rw) ++ ([(StandD.mk (((l.getD i actE.dflt)).fact) false none ([]) 0)]))) o_row6 o43
        exact EX.then_cut ⟨(([] ++ rw) ++ ([(StandD.mk (((l.getD i actE.dflt)).fact) false none ([]) 0)])), a43, k43⟩ ⟨(by kernel_rfl), (by kernel_rfl), (by kernel_rfl), (by kernel_rfl), (by kernel_rfl), (by kernel_rfl), trivial⟩ ⟨h39, M0_6, N44, l39, (G43.drop s46.le), (TabA.mono ((l11.trans l21).trans l39) o_tab6), s45, g43, rfl⟩
      ·
       skip
       rintro ⟨rx, ax, cx⟩ w47 ⟨h47, M0_47, M1_47, l47, G47, o_tab47, o_row47, g_row47, hrx⟩
       try dsimp only at *
       have hx1 : rx.length = rw.length + 1 := by rw [hrx]; simp
       have hx2 : rx.map absS = rw.map absS ++ [(((l.getD i actE.dflt)).fact, false, [])] := by rw [hrx]; simp [absS]
       have hkx : rw.length < rx.length := by omega
       have hfx : (rx.getD rw.length standE.dflt).fact = ((l.getD i actE.dflt)).fact := by rw [hrx]; simp
       have hof : OfA (rw.map absS) ((l.getD i actE.dflt)).fact (rx.map absS) rw.length := of_new hno hx2
       have hwx : ∀ s ∈ rx, s.ws.length ≤ i := hrx ▸ mem_rx hwl (Nat.zero_le _)
       refine CW.region ?_
       refine WL.q (.slice ax rx.length cx) (by kernel_rfl) rfl (by kernel_rfl) (by kernel_rfl) ?_
       refine WL.q (.int .i64 (rx.length : Int)) (by kernel_rfl) rfl (by kernel_rfl) (by kernel_rfl) ?_
       refine WL.q (.int .i64 ((rx.length : Int) - 1)) (by kernel_rfl) rfl (by kernel_rfl) (q_int (x := IntKind.i64.wrap ((rx.length : Int) - 1)) (by kernel_rfl) (wrap_to (by omega) (by omega) (by omega))) ?_
       refine WL.know 59 (.int .i64 (rw.length : Int)) (x := (.int .i64 ((rx.length : Int) - 1))) (by kernel_rfl) (congrArg (Value.int .i64) (by omega)) ?_
       refine WL.q (.int .i64 (rw.length : Int)) (by kernel_rfl) rfl (by kernel_rfl) (by kernel_rfl) ?_
       refine WL.nil ?_
       refine EX.then_code ?_
       refine CW.cut (β := List StandD × Option Addr × Nat × List WD) (fun x_ => [(0, (.slice a l.length c)), (3, (.pointer (some ⟨t, 0, none⟩))), (4, (.slice x_.2.1 x_.1.length x_.2.2.1)), (5, (.int .i64 (i : Int)))]) (fun x_ w_ => ∃ h_ M0_ M1_, (PH.le h47 h_) ∧ (Wld K w_ h_ M1_) ∧ (TabA h_ t (x_.1.map absS) x_.2.2.2 (i + 1) M M0_) ∧ (Own 43 standE M0_ M1_ x_.2.1 x_.2.2.1 x_.1) ∧ (∀ e_ ∈ x_.1, standG h_ e_) ∧ (DsOk (x_.1.map absS) x_.2.2.2)) ?_ ?_
       ·
        skip
        refine CW.seq ?_
        refine CW.region ?_
        refine WL.q (.pointer (some ⟨b9, 0, none⟩)) (by kernel_rfl) rfl (by kernel_rfl) (by kernel_rfl) ?_
        refine WL.q (.int .i64 (((l.getD i actE.dflt)).op)) (by kernel_rfl) rfl (by kernel_rfl) (q_load (off := 0) rfl (by kernel_rfl) (by kernel_rfl) (G47.imm _ _ ((l21.trans l47) _ _ hb11)) (by kernel_rfl)) ?_
        refine WL.nil ?_
        refine EX.then_code ?_
        refine CW.block ?_
        refine CW.seq ?_
        refine CW.region ?_
        refine WL.q (.bool ((((l.getD i actE.dflt)).op : Int) == 1)) (by kernel_rfl) rfl (by kernel_rfl) (by kernel_rfl) ?_
        refine WL.q (.bool ((((l.getD i actE.dflt)).op : Int) == 1)) (by kernel_rfl) rfl (by kernel_rfl) (by kernel_rfl) ?_
        refine WL.nil ?_
        refine EX.then_code ?_
        refine CW.cond_t (by kernel_rfl) ((show _ = Value.bool ((((l.getD i actE.dflt)).op : Int) == 1) by kernel_rfl).trans (congrArg Value.bool (c22))) ?_
        refine CW.seq ?_
        refine CW.region ?_
        refine WL.q (.pointer (some ⟨t, 0, none⟩)) (by kernel_rfl) rfl (by kernel_rfl) (by kernel_rfl) ?_
        refine WL.q (.pointer (some ⟨b9, 1, none⟩)) (by kernel_rfl) rfl (by kernel_rfl) (by kernel_rfl) ?_
        refine WL.q (.int .i64 (((l.getD i actE.dflt)).fact)) (by kernel_rfl) rfl (by kernel_rfl) (q_load (off := 1) rfl (by kernel_rfl) (by kernel_rfl) (G47.imm _ _ ((l21.trans l47) _ _ hb11)) (by kernel_rfl)) ?_
        obtain ⟨N48, s49, s50⟩ : ∃ N_, Own 43 standE M N_ ax cx rx ∧ TabA h47 t (rw.map absS) cm i N_ M1_47 := Ly.swap (lyTabA h47 t (rw.map absS) cm i) (Ly.own (E := standE) 43 ax cx rx) o_tab47 o_row47
        refine WL.call (by kernel_rfl) rfl (by kernel_rfl) (by kernel_rfl) (freeA_spec G47 s50 ((l.getD i actE.dflt)).fact (hfl _ (getD_mem (d := actE.dflt) (show i < l.length by omega))).1 (by omega) hof) (RetM.elim ?_)
        rintro w51 h51 M51 _ l51 G51 ⟨rfl, A51⟩
        refine WL.nil ?_
        refine EX.then_code ?_
        refine CW.region ?_
        refine WL.q (.slice ax rx.length cx) (by kernel_rfl) rfl (by kernel_rfl) (by kernel_rfl) ?_
        refine WL.q (.int .i64 (rw.length : Int)) (by kernel_rfl) rfl (by kernel_rfl) (by kernel_rfl) ?_
        refine WL.q (eptr ax (rw.length * standE.sz)) (by kernel_rfl) rfl (by kernel_rfl) (q_indexAddr (i := rw.length) (E := standE) (xs := rx) (e := 43) (c := cx) (k := .i64) (m := rx.length) rfl rfl (by kernel_rfl) (by kernel_rfl) (by kernel_rfl) (s49.reads.mono ((Ly.le (lyTabA h51 t (freeA (rx.map absS) rw.length) cm (i + 1)) A51).trans G51.own)) (by omega)) ?_
        refine WL.q (eptr ax (rw.length * standE.sz + 1)) (by kernel_rfl) rfl (by kernel_rfl) (q_fieldAddr_e (i := rw.length) (k := rw.length * standE.sz) (off := 1) rfl (by kernel_rfl) (by kernel_rfl) (s49.reads.mono ((Ly.le (lyTabA h51 t (freeA (rx.map absS) rw.length) cm (i + 1)) A51).trans G51.own)) (by omega)) ?_
        obtain ⟨N52, s53, s54⟩ : ∃ N_, TabA h51 t (freeA (rx.map absS) rw.length) cm (i + 1) M N_ ∧ Own 43 standE N_ M51 ax cx rx := Ly.swap (Ly.own (E := standE) 43 ax cx rx) (lyTabA h51 t (freeA (rx.map absS) rw.length) cm (i + 1)) s49 A51
        have hcl_ : ((rx.getD rw.length standE.dflt)).ws.length ≤ ((rx.getD rw.length standE.dflt)).c := (g_row47 _ (getD_mem (d := standE.dflt) (show rw.length < rx.length from (by omega)))).2.2
        refine WL.exu (by kernel_rfl) rfl (by kernel_rfl) (q_storeF (v := (.bool true)) (xs := rx) (i := rw.length) 1 (StandD.mk (((rx.getD rw.length standE.dflt)).fact) true (((rx.getD rw.length standE.dflt)).a) (((rx.getD rw.length standE.dflt)).ws) (((rx.getD rw.length standE.dflt)).c)) G51 s54 (by omega) (by decide) rfl (by kernel_rfl) (by kernel_rfl) (by kernel_rfl) rfl rfl rfl) ?_
        rintro w55 ⟨M55, G55, o55⟩
        have g55 := all_set (i := rw.length) (all_up @standG.mono l51 g_row47) (show standG h51 (StandD.mk (((rx.getD rw.length standE.dflt)).fact) true (((rx.getD rw.length standE.dflt)).a) (((rx.getD rw.length standE.dflt)).ws) (((rx.getD rw.length standE.dflt)).c)) from ⟨((g_row47 (rx.getD rw.length standE.dflt) (getD_mem (d := standE.dflt) (show rw.length < rx.length from (by omega)))).1.mono l51), (all_up @whyG.mono l51 (g_row47 (rx.getD rw.length standE.dflt) (getD_mem (d := standE.dflt) (show rw.length < rx.length from (by omega)))).2.1), (by first | omega | (dsimp only; first | omega | assumption) | simp)⟩)
        refine WL.nil ?_
        refine EX.in_block ?_
        have hrs : (rx.set rw.length (StandD.mk (((rx.getD rw.length standE.dflt)).fact) true (((rx.getD rw.length standE.dflt)).a) (((rx.getD rw.length standE.dflt)).ws) (((rx.getD rw.length standE.dflt)).c))).map absS = (freeA (rx.map absS) rw.length) := free_row hkx rfl
        have hokn : DsOk ((rx.set rw.length (StandD.mk (((rx.getD rw.length standE.dflt)).fact) true (((rx.getD rw.length standE.dflt)).a) (((rx.getD rw.length standE.dflt)).ws) (((rx.getD rw.length standE.dflt)).c))).map absS) cm := DsOk.cast hrs.symm ((hok.of hof).free hof.lt.1)
        have Bt : TabA h51 t ((rx.set rw.length (StandD.mk (((rx.getD rw.length standE.dflt)).fact) true (((rx.getD rw.length standE.dflt)).a) (((rx.getD rw.length standE.dflt)).ws) (((rx.getD rw.length standE.dflt)).c))).map absS) cm (i + 1) M N52 := TabA.cast hrs.symm rfl (s53)
        exact EX.then_cut ⟨(rx.set rw.length (StandD.mk (((rx.getD rw.length standE.dflt)).fact) true (((rx.getD rw.length standE.dflt)).a) (((rx.getD rw.length standE.dflt)).ws) (((rx.getD rw.length standE.dflt)).c))), ax, cx, cm⟩ ⟨(by kernel_rfl), (by kernel_rfl), (lk_val (x := (.slice ax rx.length cx)) (by kernel_rfl) (by rw [List.length_set])), (by kernel_rfl), trivial⟩ ⟨h51, N52, M55, l51, G55, Bt, o55, g55, hokn⟩
       ·
        skip
        rintro ⟨rw2, ao2, co2, cm2⟩ w56 ⟨h56, M0_56, M1_56, l56, G56, o_tab56, o_row56, g_row56, hok2⟩
        try dsimp only at *
        refine CW.seq ?_
        refine CW.region ?_
        refine WL.q (.pointer (some ⟨t, 0, none⟩)) (by kernel_rfl) rfl (by kernel_rfl) (by kernel_rfl) ?_
        refine WL.q (.slice ao2 rw2.length co2) (by kernel_rfl) rfl (by kernel_rfl) (by kernel_rfl) ?_
        refine WL.call (by kernel_rfl) rfl (by kernel_rfl) (by kernel_rfl) (tell_spec G56 o_tab56 o_row56.le (by omega) o_row56 (PH.le_refl _) g_row56 rfl hok2.1) (Ret.elim ?_)
        rintro w57 h57 _ l57 G57 rfl
        refine WL.q (.bool false) (by kernel_rfl) rfl (by kernel_rfl) (by kernel_rfl) ?_
        refine WL.nil ?_
        refine EX.then_code ?_
        refine CW.cond_f (by kernel_rfl) (by kernel_rfl) ?_
        refine CW.skip ?_
        refine EX.in_block ?_
        refine EX.then_code ?_
        refine CW.region ?_
        refine WL.q (.int .i64 (i : Int)) (by kernel_rfl) rfl (by kernel_rfl) (by kernel_rfl) ?_
        refine WL.q (.int .i64 ((i + 1 : Nat) : Int)) (by kernel_rfl) rfl (by kernel_rfl) (q_int (x := IntKind.i64.wrap ((i : Int) + 1)) (by kernel_rfl) (wrap_to (by omega) (by omega) (by omega))) ?_
        refine WL.q (.int .i64 ((i + 1 : Nat) : Int)) (by kernel_rfl) rfl (by kernel_rfl) (by kernel_rfl) ?_
        refine WL.nil ?_
        exact EX.then_loop ⟨i + 1, rw2, ao2, co2, cm2⟩ ⟨(by kernel_rfl), (by kernel_rfl), (by kernel_rfl), (lk_int (x := ((i + 1 : Nat) : Int)) (by kernel_rfl) (by first | omega | (dsimp only; omega) | rfl | (dsimp only; rfl))), trivial⟩ ⟨h57, M0_56, M1_56, (((((l6.trans l11).trans l21).trans l47).trans l56).trans l57), G57, (TabA.mono l57 o_tab56), o_row56, (all_up @standG.mono l57 g_row56), (by first | omega | assumption | (dsimp only [List.length_nil, List.length_append, List.length_cons]; omega)), hok2⟩ (by first | omega | (dsimp only; omega))
     ·
      skip
      have d58 := ne_of_beq_false c22
      refine WL.know 43 (.bool false) (x := .bool ((((l.getD i actE.dflt)).op : Int) == 1)) (by kernel_rfl) (congrArg Value.bool c22) ?_
      refine WL.q (.pointer (some ⟨b9, 0, none⟩)) (by kernel_rfl) rfl (by kernel_rfl) (by kernel_rfl) ?_
      refine WL.q (.int .i64 (((l.getD i actE.dflt)).op)) (by kernel_rfl) rfl (by kernel_rfl) (q_load (off := 0) rfl (by kernel_rfl) (by kernel_rfl) (G21.imm _ _ (l21 _ _ hb11)) (by kernel_rfl)) ?_
      refine WL.q (.bool ((((l.getD i actE.dflt)).op : Int) == 2)) (by kernel_rfl) rfl (by kernel_rfl) (by kernel_rfl) ?_
      refine WL.q (.bool ((((l.getD i actE.dflt)).op : Int) == 2)) (by kernel_rfl) rfl (by kernel_rfl) (by kernel_rfl) ?_
      refine WL.q (.bool ((((l.getD i actE.dflt)).op : Int) == 2)) (by kernel_rfl) rfl (by kernel_rfl) (by kernel_rfl) ?_
      refine WL.nil ?_
      refine EX.then_code ?_
      refine CW.cond ((((l.getD i actE.dflt)).op : Int) == 2) (by kernel_rfl) (by kernel_rfl) (fun c59 => ?_) (fun c59 => ?_)
      ·
       skip
       have d60 := eq_of_beq c59
       refine CW.cut (β := List StandD × Option Addr × Nat) (fun x_ => [(0, (.slice a l.length c)), (3, (.pointer (some ⟨t, 0, none⟩))), (4, (.slice x_.2.1 x_.1.length x_.2.2)), (5, (.int .i64 (i : Int))), (6, (.pointer (some ⟨b9, 0, none⟩))), (7, (.int .i64 (-1)))]) (fun x_ w_ => ∃ h_ M0_ M1_, (PH.le h21 h_) ∧ (Wld K w_ h_ M1_) ∧ (TabA h_ t (rw.map absS) cm i M M0_) ∧ (Own 43 standE M0_ M1_ x_.2.1 x_.2.2 x_.1) ∧ (∀ e_ ∈ x_.1, standG h_ e_) ∧ (x_.1 = (([] ++ rw) ++ [StandD.mk ((l.getD i actE.dflt)).fact false none [] 0]))) ?_ ?_
       ·
        skip
        refine CW.draw (by kernel_rfl) [(4, fun w_ => PH.all w_ b9 = some (.cells #[(.int .i64 (((l.getD i actE.dflt)).op)), (.int .i64 (((l.getD i actE.dflt)).fact)), (.int .i64 ((((l.getD i actE.dflt)).w).rule)), (.int .i64 ((((l.getD i actE.dflt)).w).alt)), (.slice ((((l.getD i actE.dflt)).w).a) ((((l.getD i actE.dflt)).w).facts.length) ((((l.getD i actE.dflt)).w).c))] 40 (0, 0)))] ?_
        refine DW.take (T := fun _ => True) 1 (.slice ao rw.length co) rfl (by kernel_rfl) rfl (by kernel_rfl) (.inl fun _ => trivial) (by kernel_rfl) (Deaf.thens (Deaf.thens (Deaf.block (Deaf.thens (Deaf.thens (Deaf.block (Deaf.thens (Deaf.body RetM.not_panicked)))))))) (fun w_ _ => (by kernel_rfl)) trivial ?_
        refine DW.take (T := fun _ => True) 3 (.pointer (some ⟨b9, 1, none⟩)) rfl (by kernel_rfl) rfl (by kernel_rfl) (.inl fun _ => trivial) (by kernel_rfl) (Deaf.thens (Deaf.thens (Deaf.block (Deaf.thens (Deaf.thens (Deaf.block (Deaf.thens (Deaf.body RetM.not_panicked)))))))) (fun w_ _ => (by kernel_rfl)) trivial ?_
        refine DW.take (T := fun w_ => PH.all w_ b9 = some (.cells #[(.int .i64 (((l.getD i actE.dflt)).op)), (.int .i64 (((l.getD i actE.dflt)).fact)), (.int .i64 ((((l.getD i actE.dflt)).w).rule)), (.int .i64 ((((l.getD i actE.dflt)).w).alt)), (.slice ((((l.getD i actE.dflt)).w).a) ((((l.getD i actE.dflt)).w).facts.length) ((((l.getD i actE.dflt)).w).c))] 40 (0, 0))) 4 (.int .i64 (((l.getD i actE.dflt)).fact)) rfl (by kernel_rfl) rfl (by kernel_rfl) (.inr (by first | exact .head _ | exact .tail _ (.head _) | exact .tail _ (.tail _ (.head _)) | exact .tail _ (.tail _ (.tail _ (.head _))) | simp)) (by kernel_rfl) (Deaf.thens (Deaf.thens (Deaf.block (Deaf.thens (Deaf.thens (Deaf.block (Deaf.thens (Deaf.body RetM.not_panicked)))))))) (fun w_ T_ => (q_load (off := 1) rfl (by kernel_rfl) (by kernel_rfl) T_ (by kernel_rfl))) ((G21.drew).imm _ _ (l21 _ _ hb11)) ?_
        refine DW.take (T := fun _ => True) 5 (.agg #[(.int .i64 (((l.getD i actE.dflt)).fact)), (.bool false), (.slice none 0 0)]) rfl (by kernel_rfl) rfl (by kernel_rfl) (.inl fun _ => trivial) (by kernel_rfl) (Deaf.thens (Deaf.thens (Deaf.block (Deaf.thens (Deaf.thens (Deaf.block (Deaf.thens (Deaf.body RetM.not_panicked)))))))) (fun w_ _ => (by kernel_rfl)) trivial ?_
        refine DW.two 0 6 (by kernel_rfl) ?_ ?_
        ·
         skip
         refine DOp.ex rfl (by kernel_rfl) rfl (by kernel_rfl) (q_newB (ob := (.cells #[] 43 (0, 0))) (G21.drew) (fun b_ => .slice (some ⟨b_, 0, none⟩) 0 0) (fun u_ => by kernel_rfl)) (fun v_ w61 p_ => by obtain ⟨b61, M61, rfl, G61, B61, L61⟩ := p_; exact ⟨.inr (fun _ => (G61.imm _ _ (l21 _ _ hb11))), trivial⟩) ?_
         rintro _ w61 ⟨b61, M61, rfl, G61, B61, L61⟩
         have o61 : Own 43 standE M1_6 M61 (some ⟨b61, 0, none⟩) 0 ([] : List _) := Own.lit2 B61 (by kernel_rfl) (by kernel_rfl) (by decide)
         have g61 : ∀ e_ ∈ ([] : List _), standG h21 e_ := all_nil
         refine DW.two 2 6 (by kernel_rfl) ?_ ?_
         ·
          skip
          refine DOp.ex rfl (by kernel_rfl) rfl (by kernel_rfl) (q_app (e := 43) (bytes := 40) (cap := 0) (c2 := co) (M0 := M1_6) (xs := ([] : List _)) (ys := rw) G61 o61 (o_row6.reads.mono (o61.le.trans G61.own)) rfl (by kernel_rfl) (by kernel_rfl) (by kernel_rfl) (by first | (simp [maxLen]; omega) | (simp only [maxLen, List.length_append, List.length_cons, List.length_nil]; omega) | (simp only [maxLen, List.length_append, List.length_nil]; omega) | (simp only [maxLen, List.length_append, List.length_cons, List.length_nil, List.length_take, List.length_drop]; omega) | (simp only [maxLen]; omega)) (by first | omega | (simp; omega) | (simp only [List.length_append, List.length_cons, List.length_nil]; omega) | (simp only [List.length_append, List.length_cons, List.length_nil, List.length_take, List.length_drop]; omega))) (fun v_ w62 p_ => by obtain ⟨a62, k62, M62, rfl, G62, o62, z62⟩ := p_; exact ⟨.inr (fun _ => (G62.imm _ _ (l21 _ _ hb11))), trivial⟩) ?_
          rintro _ w62 ⟨a62, k62, M62, rfl, G62, o62, z62⟩
          have g62 : ∀ e_ ∈ ([] ++ rw), standG h21 e_ := all_app g61 (all_up @standG.mono (l11.trans l21) g_row6)
          refine DW.only 6 (by kernel_rfl) ?_
          refine DOp.ex rfl (by kernel_rfl) rfl (by kernel_rfl) (q_newF (ob := (.cells #[(.int .i64 (((l.getD i actE.dflt)).fact)), (.bool false), (.slice none 0 0)] 43 (0, 0))) G62 (fun b_ => .slice (some ⟨b_, 0, none⟩) 1 1) (fun u_ => by kernel_rfl)) (fun v_ w63 p_ => by obtain ⟨b63, h63, rfl, l63, G63, hb63, L63⟩ := p_; exact ⟨.inr (fun _ => (G63.imm _ _ ((l21.trans l63) _ _ hb11))), trivial⟩) ?_
          rintro _ w63 ⟨b63, h63, rfl, l63, G63, hb63, L63⟩
          have r64 : RS h63 standE (some ⟨b63, 0, none⟩) [(StandD.mk (((l.getD i actE.dflt)).fact) false none ([]) 0)] := RS.blk hb63 (by kernel_rfl)
          have g64 : ∀ e_ ∈ [(StandD.mk (((l.getD i actE.dflt)).fact) false none ([]) 0)], standG h63 e_ := (all_one (show standG h63 (StandD.mk (((l.getD i actE.dflt)).fact) false none ([]) 0) from ⟨(RS.nil _ _ _), all_nil, (by first | omega | (dsimp only; first | omega | assumption) | simp)⟩))
          refine DW.only 7 (by kernel_rfl) ?_
          refine DOp.ex rfl (by kernel_rfl) rfl (by kernel_rfl) (q_app (e := 43) (bytes := 40) (cap := k62) (c2 := 1) (M0 := M1_6) (xs := ([] ++ rw)) (ys := ([(StandD.mk (((l.getD i actE.dflt)).fact) false none ([]) 0)])) G63 o62 (r64.mono ((PH.le_refl _).trans G63.imm)) rfl (by kernel_rfl) (by kernel_rfl) (by kernel_rfl) (by first | (simp [maxLen]; omega) | (simp only [maxLen, List.length_append, List.length_cons, List.length_nil]; omega) | (simp only [maxLen, List.length_append, List.length_nil]; omega) | (simp only [maxLen, List.length_append, List.length_cons, List.length_nil, List.length_take, List.length_drop]; omega) | (simp only [maxLen]; omega)) (by first | omega | (simp; omega) | (simp only [List.length_append, List.length_cons, List.length_nil]; omega) | (simp only [List.length_append, List.length_cons, List.length_nil, List.length_take, List.length_drop]; omega))) (fun v_ w65 p_ => by obtain ⟨a65, k65, M65, rfl, G65, o65, z65⟩ := p_; exact ⟨.inr (fun _ => (G65.imm _ _ ((l21.trans l63) _ _ hb11))), trivial⟩) ?_
          rintro _ w65 ⟨a65, k65, M65, rfl, G65, o65, z65⟩
          have g65 : ∀ e_ ∈ (([] ++ rw) ++ ([(StandD.mk (((l.getD i actE.dflt)).fact) false none ([]) 0)])), standG h63 e_ := all_app (all_up @standG.mono l63 g62) g64
          refine DW.take (T := fun _ => True) 8 (.slice a65 ((([] ++ rw) ++ ([(StandD.mk (((l.getD i actE.dflt)).fact) false none ([]) 0)])).length) k65) rfl (by kernel_rfl) rfl (by kernel_rfl) (.inl fun _ => trivial) (by kernel_rfl) (Deaf.thens (Deaf.thens (Deaf.block (Deaf.thens (Deaf.thens (Deaf.block (Deaf.thens (Deaf.body RetM.not_panicked)))))))) (fun w_ _ => (by kernel_rfl)) trivial ?_
          refine DW.done (by kernel_rfl) ?_
          obtain ⟨N66, s67, s68⟩ : ∃ N_, Own 43 standE M0_6 N_ a65 k65 (([] ++ rw) ++ ([(StandD.mk (((l.getD i actE.dflt)).fact) false none ([]) 0)])) ∧ Own 43 standE N_ M65 ao co rw := Ly.swap (Ly.own (E := standE) 43 ao co rw) (Ly.own (E := standE) 43 a65 k65 (([] ++ rw) ++ ([(StandD.mk (((l.getD i actE.dflt)).fact) false none ([]) 0)]))) o_row6 o65
          exact EX.then_cut ⟨(([] ++ rw) ++ ([(StandD.mk (((l.getD i actE.dflt)).fact) false none ([]) 0)])), a65, k65⟩ ⟨(by kernel_rfl), (by kernel_rfl), (by kernel_rfl), (by kernel_rfl), (by kernel_rfl), (by kernel_rfl), trivial⟩ ⟨h63, M0_6, N66, l63, (G65.drop s68.le), (TabA.mono ((l11.trans l21).trans l63) o_tab6), s67, g65, rfl⟩
         ·
          skip
          refine DOp.ex rfl (by kernel_rfl) rfl (by kernel_rfl) (q_newF (ob := (.cells #[(.int .i64 (((l.getD i actE.dflt)).fact)), (.bool false), (.slice none 0 0)] 43 (0, 0))) G61 (fun b_ => .slice (some ⟨b_, 0, none⟩) 1 1) (fun u_ => by kernel_rfl)) (fun v_ w69 p_ => by obtain ⟨b69, h69, rfl, l69, G69, hb69, L69⟩ := p_; exact ⟨.inr (fun _ => (G69.imm _ _ ((l21.trans l69) _ _ hb11))), trivial⟩) ?_
          rintro _ w69 ⟨b69, h69, rfl, l69, G69, hb69, L69⟩
          have r70 : RS h69 standE (some ⟨b69, 0, none⟩) [(StandD.mk (((l.getD i actE.dflt)).fact) false none ([]) 0)] := RS.blk hb69 (by kernel_rfl)
          have g70 : ∀ e_ ∈ [(StandD.mk (((l.getD i actE.dflt)).fact) false none ([]) 0)], standG h69 e_ := (all_one (show standG h69 (StandD.mk (((l.getD i actE.dflt)).fact) false none ([]) 0) from ⟨(RS.nil _ _ _), all_nil, (by first | omega | (dsimp only; first | omega | assumption) | simp)⟩))
          refine DW.only 2 (by kernel_rfl) ?_
          refine DOp.ex rfl (by kernel_rfl) rfl (by kernel_rfl) (q_app (e := 43) (bytes := 40) (cap := 0) (c2 := co) (M0 := M1_6) (xs := ([] : List _)) (ys := rw) G69 o61 (o_row6.reads.mono (o61.le.trans G69.own)) rfl (by kernel_rfl) (by kernel_rfl) (by kernel_rfl) (by first | (simp [maxLen]; omega) | (simp only [maxLen, List.length_append, List.length_cons, List.length_nil]; omega) | (simp only [maxLen, List.length_append, List.length_nil]; omega) | (simp only [maxLen, List.length_append, List.length_cons, List.length_nil, List.length_take, List.length_drop]; omega) | (simp only [maxLen]; omega)) (by first | omega | (simp; omega) | (simp only [List.length_append, List.length_cons, List.length_nil]; omega) | (simp only [List.length_append, List.length_cons, List.length_nil, List.length_take, List.length_drop]; omega))) (fun v_ w71 p_ => by obtain ⟨a71, k71, M71, rfl, G71, o71, z71⟩ := p_; exact ⟨.inr (fun _ => (G71.imm _ _ ((l21.trans l69) _ _ hb11))), trivial⟩) ?_
          rintro _ w71 ⟨a71, k71, M71, rfl, G71, o71, z71⟩
          have g71 : ∀ e_ ∈ ([] ++ rw), standG h69 e_ := all_app (all_up @standG.mono l69 g61) (all_up @standG.mono ((l11.trans l21).trans l69) g_row6)
          refine DW.only 7 (by kernel_rfl) ?_
          refine DOp.ex rfl (by kernel_rfl) rfl (by kernel_rfl) (q_app (e := 43) (bytes := 40) (cap := k71) (c2 := 1) (M0 := M1_6) (xs := ([] ++ rw)) (ys := ([(StandD.mk (((l.getD i actE.dflt)).fact) false none ([]) 0)])) G71 o71 (r70.mono ((PH.le_refl _).trans G71.imm)) rfl (by kernel_rfl) (by kernel_rfl) (by kernel_rfl) (by first | (simp [maxLen]; omega) | (simp only [maxLen, List.length_append, List.length_cons, List.length_nil]; omega) | (simp only [maxLen, List.length_append, List.length_nil]; omega) | (simp only [maxLen, List.length_append, List.length_cons, List.length_nil, List.length_take, List.length_drop]; omega) | (simp only [maxLen]; omega)) (by first | omega | (simp; omega) | (simp only [List.length_append, List.length_cons, List.length_nil]; omega) | (simp only [List.length_append, List.length_cons, List.length_nil, List.length_take, List.length_drop]; omega))) (fun v_ w72 p_ => by obtain ⟨a72, k72, M72, rfl, G72, o72, z72⟩ := p_; exact ⟨.inr (fun _ => (G72.imm _ _ ((l21.trans l69) _ _ hb11))), trivial⟩) ?_
          rintro _ w72 ⟨a72, k72, M72, rfl, G72, o72, z72⟩
          have g72 : ∀ e_ ∈ (([] ++ rw) ++ ([(StandD.mk (((l.getD i actE.dflt)).fact) false none ([]) 0)])), standG h69 e_ := all_app g71 g70
          refine DW.take (T := fun _ => True) 8 (.slice a72 ((([] ++ rw) ++ ([(StandD.mk (((l.getD i actE.dflt)).fact) false none ([]) 0)])).length) k72) rfl (by kernel_rfl) rfl (by kernel_rfl) (.inl fun _ => trivial) (by kernel_rfl) (Deaf.thens (Deaf.thens (Deaf.block (Deaf.thens (Deaf.thens (Deaf.block (Deaf.thens (Deaf.body RetM.not_panicked)))))))) (fun w_ _ => (by kernel_rfl)) trivial ?_
          refine DW.done (by kernel_rfl) ?_
          obtain ⟨N73, s74, s75⟩ : ∃ N_, Own 43 standE M0_6 N_ a72 k72 (([] ++ rw) ++ ([(StandD.mk (((l.getD i actE.dflt)).fact) false none ([]) 0)])) ∧ Own 43 standE N_ M72 ao co rw := Ly.swap (Ly.own (E := standE) 43 ao co rw) (Ly.own (E := standE) 43 a72 k72 (([] ++ rw) ++ ([(StandD.mk (((l.getD i actE.dflt)).fact) false none ([]) 0)]))) o_row6 o72
          exact EX.then_cut ⟨(([] ++ rw) ++ ([(StandD.mk (((l.getD i actE.dflt)).fact) false none ([]) 0)])), a72, k72⟩ ⟨(by kernel_rfl), (by kernel_rfl), (by kernel_rfl), (by kernel_rfl), (by kernel_rfl), (by kernel_rfl), trivial⟩ ⟨h69, M0_6, N73, l69, (G72.drop s75.le), (TabA.mono ((l11.trans l21).trans l69) o_tab6), s74, g72, rfl⟩
        ·
         skip
         refine DOp.ex rfl (by kernel_rfl) rfl (by kernel_rfl) (q_newF (ob := (.cells #[(.int .i64 (((l.getD i actE.dflt)).fact)), (.bool false), (.slice none 0 0)] 43 (0, 0))) (G21.drew) (fun b_ => .slice (some ⟨b_, 0, none⟩) 1 1) (fun u_ => by kernel_rfl)) (fun v_ w76 p_ => by obtain ⟨b76, h76, rfl, l76, G76, hb76, L76⟩ := p_; exact ⟨.inr (fun _ => (G76.imm _ _ ((l21.trans l76) _ _ hb11))), trivial⟩) ?_
         rintro _ w76 ⟨b76, h76, rfl, l76, G76, hb76, L76⟩
         have r77 : RS h76 standE (some ⟨b76, 0, none⟩) [(StandD.mk (((l.getD i actE.dflt)).fact) false none ([]) 0)] := RS.blk hb76 (by kernel_rfl)
         have g77 : ∀ e_ ∈ [(StandD.mk (((l.getD i actE.dflt)).fact) false none ([]) 0)], standG h76 e_ := (all_one (show standG h76 (StandD.mk (((l.getD i actE.dflt)).fact) false none ([]) 0) from ⟨(RS.nil _ _ _), all_nil, (by first | omega | (dsimp only; first | omega | assumption) | simp)⟩))
         refine DW.only 0 (by kernel_rfl) ?_
         refine DOp.ex rfl (by kernel_rfl) rfl (by kernel_rfl) (q_newB (ob := (.cells #[] 43 (0, 0))) G76 (fun b_ => .slice (some ⟨b_, 0, none⟩) 0 0) (fun u_ => by kernel_rfl)) (fun v_ w78 p_ => by obtain ⟨b78, M78, rfl, G78, B78, L78⟩ := p_; exact ⟨.inr (fun _ => (G78.imm _ _ ((l21.trans l76) _ _ hb11))), trivial⟩) ?_
         rintro _ w78 ⟨b78, M78, rfl, G78, B78, L78⟩
         have o78 : Own 43 standE M1_6 M78 (some ⟨b78, 0, none⟩) 0 ([] : List _) := Own.lit2 B78 (by kernel_rfl) (by kernel_rfl) (by decide)
         have g78 : ∀ e_ ∈ ([] : List _), standG h76 e_ := all_nil
         refine DW.only 2 (by kernel_rfl) ?_
         refine DOp.ex rfl (by kernel_rfl) rfl (by kernel_rfl) (q_app (e := 43) (bytes := 40) (cap := 0) (c2 := co) (M0 := M1_6) (xs := ([] : List _)) (ys := rw) G78 o78 (o_row6.reads.mono (o78.le.trans G78.own)) rfl (by kernel_rfl) (by kernel_rfl) (by kernel_rfl) (by first | (simp [maxLen]; omega) | (simp only [maxLen, List.length_append, List.length_cons, List.length_nil]; omega) | (simp only [maxLen, List.length_append, List.length_nil]; omega) | (simp only [maxLen, List.length_append, List.length_cons, List.length_nil, List.length_take, List.length_drop]; omega) | (simp only [maxLen]; omega)) (by first | omega | (simp; omega) | (simp only [List.length_append, List.length_cons, List.length_nil]; omega) | (simp only [List.length_append, List.length_cons, List.length_nil, List.length_take, List.length_drop]; omega))) (fun v_ w79 p_ => by obtain ⟨a79, k79, M79, rfl, G79, o79, z79⟩ := p_; exact ⟨.inr (fun _ => (G79.imm _ _ ((l21.trans l76) _ _ hb11))), trivial⟩) ?_
         rintro _ w79 ⟨a79, k79, M79, rfl, G79, o79, z79⟩
         have g79 : ∀ e_ ∈ ([] ++ rw), standG h76 e_ := all_app g78 (all_up @standG.mono ((l11.trans l21).trans l76) g_row6)
         refine DW.only 7 (by kernel_rfl) ?_
         refine DOp.ex rfl (by kernel_rfl) rfl (by kernel_rfl) (q_app (e := 43) (bytes := 40) (cap := k79) (c2 := 1) (M0 := M1_6) (xs := ([] ++ rw)) (ys := ([(StandD.mk (((l.getD i actE.dflt)).fact) false none ([]) 0)])) G79 o79 (r77.mono ((PH.le_refl _).trans G79.imm)) rfl (by kernel_rfl) (by kernel_rfl) (by kernel_rfl) (by first | (simp [maxLen]; omega) | (simp only [maxLen, List.length_append, List.length_cons, List.length_nil]; omega) | (simp only [maxLen, List.length_append, List.length_nil]; omega) | (simp only [maxLen, List.length_append, List.length_cons, List.length_nil, List.length_take, List.length_drop]; omega) | (simp only [maxLen]; omega)) (by first | omega | (simp; omega) | (simp only [List.length_append, List.length_cons, List.length_nil]; omega) | (simp only [List.length_append, List.length_cons, List.length_nil, List.length_take, List.length_drop]; omega))) (fun v_ w80 p_ => by obtain ⟨a80, k80, M80, rfl, G80, o80, z80⟩ := p_; exact ⟨.inr (fun _ => (G80.imm _ _ ((l21.trans l76) _ _ hb11))), trivial⟩) ?_
         rintro _ w80 ⟨a80, k80, M80, rfl, G80, o80, z80⟩
         have g80 : ∀ e_ ∈ (([] ++ rw) ++ ([(StandD.mk (((l.getD i actE.dflt)).fact) false none ([]) 0)])), standG h76 e_ := all_app g79 g77
         refine DW.take (T := fun _ => True) 8 (.slice a80 ((([] ++ rw) ++ ([(StandD.mk (((l.getD i actE.dflt)).fact) false none ([]) 0)])).length) k80) rfl (by kernel_rfl) rfl (by kernel_rfl) (.inl fun _ => trivial) (by kernel_rfl) (Deaf.thens (Deaf.thens (Deaf.block (Deaf.thens (Deaf.thens (Deaf.block (Deaf.thens (Deaf.body RetM.not_panicked)))))))) (fun w_ _ => (by kernel_rfl)) trivial ?_
         refine DW.done (by kernel_rfl) ?_
         obtain ⟨N81, s82, s83⟩ : ∃ N_, Own 43 standE M0_6 N_ a80 k80 (([] ++ rw) ++ ([(StandD.mk (((l.getD i actE.dflt)).fact) false none ([]) 0)])) ∧ Own 43 standE N_ M80 ao co rw := Ly.swap (Ly.own (E := standE) 43 ao co rw) (Ly.own (E := standE) 43 a80 k80 (([] ++ rw) ++ ([(StandD.mk (((l.getD i actE.dflt)).fact) false none ([]) 0)]))) o_row6 o80
         exact EX.then_cut ⟨(([] ++ rw) ++ ([(StandD.mk (((l.getD i actE.dflt)).fact) false none ([]) 0)])), a80, k80⟩ ⟨(by kernel_rfl), (by kernel_rfl), (by kernel_rfl), (by kernel_rfl), (by kernel_rfl), (by kernel_rfl), trivial⟩ ⟨h76, M0_6, N81, l76, (G80.drop s83.le), (TabA.mono ((l11.trans l21).trans l76) o_tab6), s82, g80, rfl⟩
       ·
        skip
        rintro ⟨rx, ax, cx⟩ w84 ⟨h84, M0_84, M1_84, l84, G84, o_tab84, o_row84, g_row84, hrx⟩
        try dsimp only at *
        have hx1 : rx.length = rw.length + 1 := by rw [hrx]; simp
        have hx2 : rx.map absS = rw.map absS ++ [(((l.getD i actE.dflt)).fact, false, [])] := by rw [hrx]; simp [absS]
        have hkx : rw.length < rx.length := by omega
        have hfx : (rx.getD rw.length standE.dflt).fact = ((l.getD i actE.dflt)).fact := by rw [hrx]; simp
        have hof : OfA (rw.map absS) ((l.getD i actE.dflt)).fact (rx.map absS) rw.length := of_new hno hx2
        have hwx : ∀ s ∈ rx, s.ws.length ≤ i := hrx ▸ mem_rx hwl (Nat.zero_le _)
        refine CW.region ?_
        refine WL.q (.slice ax rx.length cx) (by kernel_rfl) rfl (by kernel_rfl) (by kernel_rfl) ?_
        refine WL.q (.int .i64 (rx.length : Int)) (by kernel_rfl) rfl (by kernel_rfl) (by kernel_rfl) ?_
        refine WL.q (.int .i64 ((rx.length : Int) - 1)) (by kernel_rfl) rfl (by kernel_rfl) (q_int (x := IntKind.i64.wrap ((rx.length : Int) - 1)) (by kernel_rfl) (wrap_to (by omega) (by omega) (by omega))) ?_
        refine WL.know 59 (.int .i64 (rw.length : Int)) (x := (.int .i64 ((rx.length : Int) - 1))) (by kernel_rfl) (congrArg (Value.int .i64) (by omega)) ?_
        refine WL.q (.int .i64 (rw.length : Int)) (by kernel_rfl) rfl (by kernel_rfl) (by kernel_rfl) ?_
        refine WL.nil ?_
        refine EX.then_code ?_
        refine CW.cut (β := List StandD × Option Addr × Nat × List WD) (fun x_ => [(0, (.slice a l.length c)), (3, (.pointer (some ⟨t, 0, none⟩))), (4, (.slice x_.2.1 x_.1.length x_.2.2.1)), (5, (.int .i64 (i : Int)))]) (fun x_ w_ => ∃ h_ M0_ M1_, (PH.le h84 h_) ∧ (Wld K w_ h_ M1_) ∧ (TabA h_ t (x_.1.map absS) x_.2.2.2 (i + 1) M M0_) ∧ (Own 43 standE M0_ M1_ x_.2.1 x_.2.2.1 x_.1) ∧ (∀ e_ ∈ x_.1, standG h_ e_) ∧ (DsOk (x_.1.map absS) x_.2.2.2)) ?_ ?_
        ·
         skip
         refine CW.seq ?_
         refine CW.region ?_
         refine WL.q (.pointer (some ⟨b9, 0, none⟩)) (by kernel_rfl) rfl (by kernel_rfl) (by kernel_rfl) ?_
         refine WL.q (.int .i64 (((l.getD i actE.dflt)).op)) (by kernel_rfl) rfl (by kernel_rfl) (q_load (off := 0) rfl (by kernel_rfl) (by kernel_rfl) (G84.imm _ _ ((l21.trans l84) _ _ hb11)) (by kernel_rfl)) ?_
         refine WL.nil ?_
         refine EX.then_code ?_
         refine CW.block ?_
         refine CW.seq ?_
         refine CW.region ?_
         refine WL.q (.bool ((((l.getD i actE.dflt)).op : Int) == 1)) (by kernel_rfl) rfl (by kernel_rfl) (by kernel_rfl) ?_
         refine WL.q (.bool ((((l.getD i actE.dflt)).op : Int) == 1)) (by kernel_rfl) rfl (by kernel_rfl) (by kernel_rfl) ?_
         refine WL.nil ?_
         refine EX.then_code ?_
         refine CW.cond_f (by kernel_rfl) ((show _ = Value.bool ((((l.getD i actE.dflt)).op : Int) == 1) by kernel_rfl).trans (congrArg Value.bool (c22))) ?_
         refine CW.seq ?_
         refine CW.region ?_
         refine WL.q (.bool ((((l.getD i actE.dflt)).op : Int) == 2)) (by kernel_rfl) rfl (by kernel_rfl) (by kernel_rfl) ?_
         refine WL.q (.bool ((((l.getD i actE.dflt)).op : Int) == 2)) (by kernel_rfl) rfl (by kernel_rfl) (by kernel_rfl) ?_
         refine WL.nil ?_
         refine EX.then_code ?_
         refine CW.cond_t (by kernel_rfl) ((show _ = Value.bool ((((l.getD i actE.dflt)).op : Int) == 2) by kernel_rfl).trans (congrArg Value.bool (c59))) ?_
         refine CW.seq ?_
         refine CW.region ?_
         refine WL.q (.pointer (some ⟨t, 0, none⟩)) (by kernel_rfl) rfl (by kernel_rfl) (by kernel_rfl) ?_
         refine WL.q (.pointer (some ⟨b9, 1, none⟩)) (by kernel_rfl) rfl (by kernel_rfl) (by kernel_rfl) ?_
         refine WL.q (.int .i64 (((l.getD i actE.dflt)).fact)) (by kernel_rfl) rfl (by kernel_rfl) (q_load (off := 1) rfl (by kernel_rfl) (by kernel_rfl) (G84.imm _ _ ((l21.trans l84) _ _ hb11)) (by kernel_rfl)) ?_
         refine WL.q (.pointer (some ⟨b9, 2, none⟩)) (by kernel_rfl) rfl (by kernel_rfl) (by kernel_rfl) ?_
         refine WL.q (.agg #[(.int .i64 ((((l.getD i actE.dflt)).w).rule)), (.int .i64 ((((l.getD i actE.dflt)).w).alt)), (.slice ((((l.getD i actE.dflt)).w).a) ((((l.getD i actE.dflt)).w).facts.length) ((((l.getD i actE.dflt)).w).c))]) (by kernel_rfl) rfl (by kernel_rfl) (q_loadAgg (off := 2) (vs := [(.int .i64 ((((l.getD i actE.dflt)).w).rule)), (.int .i64 ((((l.getD i actE.dflt)).w).alt)), (.slice ((((l.getD i actE.dflt)).w).a) ((((l.getD i actE.dflt)).w).facts.length) ((((l.getD i actE.dflt)).w).c))]) rfl (by kernel_rfl) (by kernel_rfl) (G84.imm _ _ ((l21.trans l84) _ _ hb11)) (agg_at (by kernel_rfl))) ?_
         obtain ⟨N85, s86, s87⟩ : ∃ N_, Own 43 standE M N_ ax cx rx ∧ TabA h84 t (rw.map absS) cm i N_ M1_84 := Ly.swap (lyTabA h84 t (rw.map absS) cm i) (Ly.own (E := standE) 43 ax cx rx) o_tab84 o_row84
         refine WL.call (by kernel_rfl) rfl (by kernel_rfl) (by kernel_rfl) (supA_spec G84 s87 ((l.getD i actE.dflt)).fact (hfl _ (getD_mem (d := actE.dflt) (show i < l.length by omega))).1 (by omega) (y := (((l.getD i actE.dflt)).w)) (show whyG h84 (((l.getD i actE.dflt)).w) from ⟨(Gl _ (getD_mem (d := actE.dflt) (show i < l.length by omega))).mono (((((l1.trans l5).trans l6).trans l11).trans l21).trans l84), by omega⟩) hof) (RetM.elim ?_)
         rintro w88 h88 M88 _ l88 G88 ⟨rfl, A88⟩
         refine WL.nil ?_
         refine EX.then_code ?_
         refine CW.seq ?_
         refine CW.draw (by kernel_rfl) [(4, fun w_ => RS (PH.all w_) standE ax rx), (6, fun w_ => PH.all w_ b9 = some (.cells #[(.int .i64 (((l.getD i actE.dflt)).op)), (.int .i64 (((l.getD i actE.dflt)).fact)), (.int .i64 ((((l.getD i actE.dflt)).w).rule)), (.int .i64 ((((l.getD i actE.dflt)).w).alt)), (.slice ((((l.getD i actE.dflt)).w).a) ((((l.getD i actE.dflt)).w).facts.length) ((((l.getD i actE.dflt)).w).c))] 40 (0, 0)))] ?_
         refine DW.take (T := fun _ => True) 0 (.slice ax rx.length cx) rfl (by kernel_rfl) rfl (by kernel_rfl) (.inl fun _ => trivial) (by kernel_rfl) (Deaf.thens (Deaf.block (Deaf.thens (Deaf.block (Deaf.thens (Deaf.thens (Deaf.block (Deaf.thens (Deaf.body RetM.not_panicked))))))))) (fun w_ _ => (by kernel_rfl)) trivial ?_
         refine DW.take (T := fun _ => True) 1 (.int .i64 (rw.length : Int)) rfl (by kernel_rfl) rfl (by kernel_rfl) (.inl fun _ => trivial) (by kernel_rfl) (Deaf.thens (Deaf.block (Deaf.thens (Deaf.block (Deaf.thens (Deaf.thens (Deaf.block (Deaf.thens (Deaf.body RetM.not_panicked))))))))) (fun w_ _ => (by kernel_rfl)) trivial ?_
         refine DW.take (T := fun _ => True) 2 (eptr ax (rw.length * standE.sz)) rfl (by kernel_rfl) rfl (by kernel_rfl) (.inl fun _ => trivial) (by kernel_rfl) (Deaf.thens (Deaf.block (Deaf.thens (Deaf.block (Deaf.thens (Deaf.thens (Deaf.block (Deaf.thens (Deaf.body RetM.not_panicked))))))))) (fun w_ _ => (q_indexAddr (i := rw.length) (E := standE) (xs := rx) (e := 43) (c := cx) (k := .i64) (m := rx.length) rfl rfl (by kernel_rfl) (by kernel_rfl) (by kernel_rfl) (s86.reads.mono ((Ly.le (lyTabA h88 t (supA (rx.map absS) rw.length (datW (((l.getD i actE.dflt)).w))) (supC (rx.map absS) rw.length cm (datW (((l.getD i actE.dflt)).w))) (i + 1)) A88).trans (G88.drew).own)) (by omega))) trivial ?_
         refine DW.take (T := fun _ => True) 3 (eptr ax (rw.length * standE.sz + 2)) rfl (by kernel_rfl) rfl (by kernel_rfl) (.inl fun _ => trivial) (by kernel_rfl) (Deaf.thens (Deaf.block (Deaf.thens (Deaf.block (Deaf.thens (Deaf.thens (Deaf.block (Deaf.thens (Deaf.body RetM.not_panicked))))))))) (fun w_ _ => (q_fieldAddr_e (i := rw.length) (k := rw.length * standE.sz) (off := 2) rfl (by kernel_rfl) (by kernel_rfl) (s86.reads.mono ((Ly.le (lyTabA h88 t (supA (rx.map absS) rw.length (datW (((l.getD i actE.dflt)).w))) (supC (rx.map absS) rw.length cm (datW (((l.getD i actE.dflt)).w))) (i + 1)) A88).trans (G88.drew).own)) (by omega))) trivial ?_
         refine DW.take (T := fun w_ => RS (PH.all w_) standE ax rx) 4 (.slice (((rx.getD rw.length standE.dflt)).a) (((rx.getD rw.length standE.dflt)).ws.length) (((rx.getD rw.length standE.dflt)).c)) rfl (by kernel_rfl) rfl (by kernel_rfl) (.inr (by first | exact .head _ | exact .tail _ (.head _) | exact .tail _ (.tail _ (.head _)) | exact .tail _ (.tail _ (.tail _ (.head _))) | simp)) (by kernel_rfl) (Deaf.thens (Deaf.block (Deaf.thens (Deaf.block (Deaf.thens (Deaf.thens (Deaf.block (Deaf.thens (Deaf.body RetM.not_panicked))))))))) (fun w_ T_ => (q_load_e (i := rw.length) (k := 2) (E := standE) rfl (by kernel_rfl) (by kernel_rfl) T_ (by omega) (by decide) (by kernel_rfl))) (s86.reads.mono ((Ly.le (lyTabA h88 t (supA (rx.map absS) rw.length (datW (((l.getD i actE.dflt)).w))) (supC (rx.map absS) rw.length cm (datW (((l.getD i actE.dflt)).w))) (i + 1)) A88).trans (G88.drew).own)) ?_
         refine DW.take (T := fun _ => True) 5 (.pointer (some ⟨b9, 2, none⟩)) rfl (by kernel_rfl) rfl (by kernel_rfl) (.inl fun _ => trivial) (by kernel_rfl) (Deaf.thens (Deaf.block (Deaf.thens (Deaf.block (Deaf.thens (Deaf.thens (Deaf.block (Deaf.thens (Deaf.body RetM.not_panicked))))))))) (fun w_ _ => (by kernel_rfl)) trivial ?_
         refine DW.take (T := fun w_ => PH.all w_ b9 = some (.cells #[(.int .i64 (((l.getD i actE.dflt)).op)), (.int .i64 (((l.getD i actE.dflt)).fact)), (.int .i64 ((((l.getD i actE.dflt)).w).rule)), (.int .i64 ((((l.getD i actE.dflt)).w).alt)), (.slice ((((l.getD i actE.dflt)).w).a) ((((l.getD i actE.dflt)).w).facts.length) ((((l.getD i actE.dflt)).w).c))] 40 (0, 0))) 6 (.agg #[(.int .i64 ((((l.getD i actE.dflt)).w).rule)), (.int .i64 ((((l.getD i actE.dflt)).w).alt)), (.slice ((((l.getD i actE.dflt)).w).a) ((((l.getD i actE.dflt)).w).facts.length) ((((l.getD i actE.dflt)).w).c))]) rfl (by kernel_rfl) rfl (by kernel_rfl) (.inr (by first | exact .head _ | exact .tail _ (.head _) | exact .tail _ (.tail _ (.head _)) | exact .tail _ (.tail _ (.tail _ (.head _))) | simp)) (by kernel_rfl) (Deaf.thens (Deaf.block (Deaf.thens (Deaf.block (Deaf.thens (Deaf.thens (Deaf.block (Deaf.thens (Deaf.body RetM.not_panicked))))))))) (fun w_ T_ => (q_loadAgg (off := 2) (vs := [(.int .i64 ((((l.getD i actE.dflt)).w).rule)), (.int .i64 ((((l.getD i actE.dflt)).w).alt)), (.slice ((((l.getD i actE.dflt)).w).a) ((((l.getD i actE.dflt)).w).facts.length) ((((l.getD i actE.dflt)).w).c))]) rfl (by kernel_rfl) (by kernel_rfl) T_ (agg_at (by kernel_rfl)))) ((G88.drew).imm _ _ (((l21.trans l84).trans l88) _ _ hb11)) ?_
         refine DW.only 7 (by kernel_rfl) ?_
         have hgw_ := hwx _ (getD_mem (d := standE.dflt) hkx)
         refine DOp.call rfl (by kernel_rfl) rfl (by kernel_rfl) (by kernel_rfl) (find_spec (l := (((rx.getD rw.length standE.dflt)).ws)) (c := (((rx.getD rw.length standE.dflt)).c)) (G88.drew) ((g_row84 (rx.getD rw.length standE.dflt) (getD_mem (d := standE.dflt) (show rw.length < rx.length from (by omega)))).1.mono l88) (all_up @whyG.mono l88 (g_row84 (rx.getD rw.length standE.dflt) (getD_mem (d := standE.dflt) (show rw.length < rx.length from (by omega)))).2.1) (by omega) (y := (((l.getD i actE.dflt)).w)) (show whyG h88 (((l.getD i actE.dflt)).w) from ⟨(Gl _ (getD_mem (d := actE.dflt) (show i < l.length by omega))).mono ((((((l1.trans l5).trans l6).trans l11).trans l21).trans l84).trans l88), by omega⟩)) (Ret.elimD (fun w89 h89 l89 G89 => ⟨.inl (by kernel_rfl), .inl (by kernel_rfl), trivial⟩) ?_)
         rintro w89 h89 _ l89 G89 rfl
         refine DW.take (T := fun _ => True) 8 (.bool (decide ((idxF (fun x => sameW x (((l.getD i actE.dflt)).w)) (((rx.getD rw.length standE.dflt)).ws)) < 0))) rfl (by kernel_rfl) rfl (by kernel_rfl) (.inl fun _ => trivial) (by kernel_rfl) (Deaf.thens (Deaf.block (Deaf.thens (Deaf.block (Deaf.thens (Deaf.thens (Deaf.block (Deaf.thens (Deaf.body RetM.not_panicked))))))))) (fun w_ _ => (by kernel_rfl)) trivial ?_
         refine DW.done (by kernel_rfl) ?_
         refine EX.then_code ?_
         refine CW.cond (decide ((idxF (fun x => sameW x (((l.getD i actE.dflt)).w)) (((rx.getD rw.length standE.dflt)).ws)) < 0)) (by kernel_rfl) (by kernel_rfl) (fun c90 => ?_) (fun c90 => ?_)
         ·
          skip
          have d91 := of_decide_eq_true c90
          refine CW.draw (by kernel_rfl) [(7, fun w_ => RS (PH.all w_) standE ax rx), (10, fun w_ => PH.all w_ b9 = some (.cells #[(.int .i64 (((l.getD i actE.dflt)).op)), (.int .i64 (((l.getD i actE.dflt)).fact)), (.int .i64 ((((l.getD i actE.dflt)).w).rule)), (.int .i64 ((((l.getD i actE.dflt)).w).alt)), (.slice ((((l.getD i actE.dflt)).w).a) ((((l.getD i actE.dflt)).w).facts.length) ((((l.getD i actE.dflt)).w).c))] 40 (0, 0)))] ?_
          refine DW.take (T := fun _ => True) 0 (.slice ax rx.length cx) rfl (by kernel_rfl) rfl (by kernel_rfl) (.inl fun _ => trivial) (by kernel_rfl) (Deaf.block (Deaf.thens (Deaf.block (Deaf.thens (Deaf.thens (Deaf.block (Deaf.thens (Deaf.body RetM.not_panicked)))))))) (fun w_ _ => (by kernel_rfl)) trivial ?_
          refine DW.take (T := fun _ => True) 1 (.int .i64 (rw.length : Int)) rfl (by kernel_rfl) rfl (by kernel_rfl) (.inl fun _ => trivial) (by kernel_rfl) (Deaf.block (Deaf.thens (Deaf.block (Deaf.thens (Deaf.thens (Deaf.block (Deaf.thens (Deaf.body RetM.not_panicked)))))))) (fun w_ _ => (by kernel_rfl)) trivial ?_
          refine DW.take (T := fun _ => True) 3 (.slice ax rx.length cx) rfl (by kernel_rfl) rfl (by kernel_rfl) (.inl fun _ => trivial) (by kernel_rfl) (Deaf.block (Deaf.thens (Deaf.block (Deaf.thens (Deaf.thens (Deaf.block (Deaf.thens (Deaf.body RetM.not_panicked)))))))) (fun w_ _ => (by kernel_rfl)) trivial ?_
          refine DW.take (T := fun _ => True) 4 (.int .i64 (rw.length : Int)) rfl (by kernel_rfl) rfl (by kernel_rfl) (.inl fun _ => trivial) (by kernel_rfl) (Deaf.block (Deaf.thens (Deaf.block (Deaf.thens (Deaf.thens (Deaf.block (Deaf.thens (Deaf.body RetM.not_panicked)))))))) (fun w_ _ => (by kernel_rfl)) trivial ?_
          refine DW.take (T := fun _ => True) 5 (eptr ax (rw.length * standE.sz)) rfl (by kernel_rfl) rfl (by kernel_rfl) (.inl fun _ => trivial) (by kernel_rfl) (Deaf.block (Deaf.thens (Deaf.block (Deaf.thens (Deaf.thens (Deaf.block (Deaf.thens (Deaf.body RetM.not_panicked)))))))) (fun w_ _ => (q_indexAddr (i := rw.length) (E := standE) (xs := rx) (e := 43) (c := cx) (k := .i64) (m := rx.length) rfl rfl (by kernel_rfl) (by kernel_rfl) (by kernel_rfl) (s86.reads.mono ((Ly.le (lyTabA h88 t (supA (rx.map absS) rw.length (datW (((l.getD i actE.dflt)).w))) (supC (rx.map absS) rw.length cm (datW (((l.getD i actE.dflt)).w))) (i + 1)) A88).trans (G89.drew).own)) (by omega))) trivial ?_
          refine DW.take (T := fun _ => True) 6 (eptr ax (rw.length * standE.sz + 2)) rfl (by kernel_rfl) rfl (by kernel_rfl) (.inl fun _ => trivial) (by kernel_rfl) (Deaf.block (Deaf.thens (Deaf.block (Deaf.thens (Deaf.thens (Deaf.block (Deaf.thens (Deaf.body RetM.not_panicked)))))))) (fun w_ _ => (q_fieldAddr_e (i := rw.length) (k := rw.length * standE.sz) (off := 2) rfl (by kernel_rfl) (by kernel_rfl) (s86.reads.mono ((Ly.le (lyTabA h88 t (supA (rx.map absS) rw.length (datW (((l.getD i actE.dflt)).w))) (supC (rx.map absS) rw.length cm (datW (((l.getD i actE.dflt)).w))) (i + 1)) A88).trans (G89.drew).own)) (by omega))) trivial ?_
          refine DW.take (T := fun w_ => RS (PH.all w_) standE ax rx) 7 (.slice (((rx.getD rw.length standE.dflt)).a) (((rx.getD rw.length standE.dflt)).ws.length) (((rx.getD rw.length standE.dflt)).c)) rfl (by kernel_rfl) rfl (by kernel_rfl) (.inr (by first | exact .head _ | exact .tail _ (.head _) | exact .tail _ (.tail _ (.head _)) | exact .tail _ (.tail _ (.tail _ (.head _))) | simp)) (by kernel_rfl) (Deaf.block (Deaf.thens (Deaf.block (Deaf.thens (Deaf.thens (Deaf.block (Deaf.thens (Deaf.body RetM.not_panicked)))))))) (fun w_ T_ => (q_load_e (i := rw.length) (k := 2) (E := standE) rfl (by kernel_rfl) (by kernel_rfl) T_ (by omega) (by decide) (by kernel_rfl))) (s86.reads.mono ((Ly.le (lyTabA h88 t (supA (rx.map absS) rw.length (datW (((l.getD i actE.dflt)).w))) (supC (rx.map absS) rw.length cm (datW (((l.getD i actE.dflt)).w))) (i + 1)) A88).trans (G89.drew).own)) ?_
          refine DW.take (T := fun _ => True) 9 (.pointer (some ⟨b9, 2, none⟩)) rfl (by kernel_rfl) rfl (by kernel_rfl) (.inl fun _ => trivial) (by kernel_rfl) (Deaf.block (Deaf.thens (Deaf.block (Deaf.thens (Deaf.thens (Deaf.block (Deaf.thens (Deaf.body RetM.not_panicked)))))))) (fun w_ _ => (by kernel_rfl)) trivial ?_
          refine DW.take (T := fun w_ => PH.all w_ b9 = some (.cells #[(.int .i64 (((l.getD i actE.dflt)).op)), (.int .i64 (((l.getD i actE.dflt)).fact)), (.int .i64 ((((l.getD i actE.dflt)).w).rule)), (.int .i64 ((((l.getD i actE.dflt)).w).alt)), (.slice ((((l.getD i actE.dflt)).w).a) ((((l.getD i actE.dflt)).w).facts.length) ((((l.getD i actE.dflt)).w).c))] 40 (0, 0))) 10 (.agg #[(.int .i64 ((((l.getD i actE.dflt)).w).rule)), (.int .i64 ((((l.getD i actE.dflt)).w).alt)), (.slice ((((l.getD i actE.dflt)).w).a) ((((l.getD i actE.dflt)).w).facts.length) ((((l.getD i actE.dflt)).w).c))]) rfl (by kernel_rfl) rfl (by kernel_rfl) (.inr (by first | exact .head _ | exact .tail _ (.head _) | exact .tail _ (.tail _ (.head _)) | exact .tail _ (.tail _ (.tail _ (.head _))) | simp)) (by kernel_rfl) (Deaf.block (Deaf.thens (Deaf.block (Deaf.thens (Deaf.thens (Deaf.block (Deaf.thens (Deaf.body RetM.not_panicked)))))))) (fun w_ T_ => (q_loadAgg (off := 2) (vs := [(.int .i64 ((((l.getD i actE.dflt)).w).rule)), (.int .i64 ((((l.getD i actE.dflt)).w).alt)), (.slice ((((l.getD i actE.dflt)).w).a) ((((l.getD i actE.dflt)).w).facts.length) ((((l.getD i actE.dflt)).w).c))]) rfl (by kernel_rfl) (by kernel_rfl) T_ (agg_at (by kernel_rfl)))) ((G89.drew).imm _ _ ((((l21.trans l84).trans l88).trans l89) _ _ hb11)) ?_
          refine DW.two 2 11 (by kernel_rfl) ?_ ?_
          ·
           skip
           refine DOp.ex rfl (by kernel_rfl) rfl (by kernel_rfl) (q_newB (ob := (.cells #[] 28 (0, 0))) (G89.drew) (fun b_ => .slice (some ⟨b_, 0, none⟩) 0 0) (fun u_ => by kernel_rfl)) (fun v_ w92 p_ => by obtain ⟨b92, M92, rfl, G92, B92, L92⟩ := p_; exact ⟨.inr (fun _ => (s86.reads.mono (((Ly.le (lyTabA h88 t (supA (rx.map absS) rw.length (datW (((l.getD i actE.dflt)).w))) (supC (rx.map absS) rw.length cm (datW (((l.getD i actE.dflt)).w))) (i + 1)) A88).trans B92.le).trans G92.own))), .inr (fun _ => (G92.imm _ _ ((((l21.trans l84).trans l88).trans l89) _ _ hb11))), trivial⟩) ?_
           rintro _ w92 ⟨b92, M92, rfl, G92, B92, L92⟩
           have o92 : Own 28 whyE M88 M92 (some ⟨b92, 0, none⟩) 0 ([] : List _) := Own.lit2 B92 (by kernel_rfl) (by kernel_rfl) (by decide)
           have g92 : ∀ e_ ∈ ([] : List _), whyG h89 e_ := all_nil
           refine DW.two 8 11 (by kernel_rfl) ?_ ?_
           ·
            skip
            refine DOp.ex rfl (by kernel_rfl) rfl (by kernel_rfl) (q_app (e := 28) (bytes := 40) (cap := 0) (c2 := (((rx.getD rw.length standE.dflt)).c)) (M0 := M88) (xs := ([] : List _)) (ys := (((rx.getD rw.length standE.dflt)).ws)) G92 o92 ((g_row84 (rx.getD rw.length standE.dflt) (getD_mem (d := standE.dflt) (show rw.length < rx.length from (by omega)))).1.mono ((l88.trans l89).trans G92.imm)) rfl (by kernel_rfl) (by kernel_rfl) (by kernel_rfl) (by first | (simp [maxLen]; omega) | (simp only [maxLen, List.length_append, List.length_cons, List.length_nil]; omega) | (simp only [maxLen, List.length_append, List.length_nil]; omega) | (simp only [maxLen, List.length_append, List.length_cons, List.length_nil, List.length_take, List.length_drop]; omega) | (simp only [maxLen]; omega)) (by first | omega | (simp; omega) | (simp only [List.length_append, List.length_cons, List.length_nil]; omega) | (simp only [List.length_append, List.length_cons, List.length_nil, List.length_take, List.length_drop]; omega))) (fun v_ w93 p_ => by obtain ⟨a93, k93, M93, rfl, G93, o93, z93⟩ := p_; exact ⟨.inl (by kernel_rfl), .inr (fun _ => (G93.imm _ _ ((((l21.trans l84).trans l88).trans l89) _ _ hb11))), trivial⟩) ?_
            rintro _ w93 ⟨a93, k93, M93, rfl, G93, o93, z93⟩
            have g93 : ∀ e_ ∈ ([] ++ (((rx.getD rw.length standE.dflt)).ws)), whyG h89 e_ := all_app g92 (all_up @whyG.mono (l88.trans l89) (g_row84 (rx.getD rw.length standE.dflt) (getD_mem (d := standE.dflt) (show rw.length < rx.length from (by omega)))).2.1)
            refine DW.only 11 (by kernel_rfl) ?_
            refine DOp.ex rfl (by kernel_rfl) rfl (by kernel_rfl) (q_newF (ob := (.cells #[(.int .i64 ((((l.getD i actE.dflt)).w).rule)), (.int .i64 ((((l.getD i actE.dflt)).w).alt)), (.slice ((((l.getD i actE.dflt)).w).a) ((((l.getD i actE.dflt)).w).facts.length) ((((l.getD i actE.dflt)).w).c))] 28 (0, 0))) G93 (fun b_ => .slice (some ⟨b_, 0, none⟩) 1 1) (fun u_ => by kernel_rfl)) (fun v_ w94 p_ => by obtain ⟨b94, h94, rfl, l94, G94, hb94, L94⟩ := p_; exact ⟨.inr (fun _ => (s86.reads.mono (((Ly.le (lyTabA h88 t (supA (rx.map absS) rw.length (datW (((l.getD i actE.dflt)).w))) (supC (rx.map absS) rw.length cm (datW (((l.getD i actE.dflt)).w))) (i + 1)) A88).trans o93.le).trans G94.own))), .inl (by kernel_rfl), trivial⟩) ?_
            rintro _ w94 ⟨b94, h94, rfl, l94, G94, hb94, L94⟩
            have r95 : RS h94 whyE (some ⟨b94, 0, none⟩) [(((l.getD i actE.dflt)).w)] := RS.blk hb94 (by kernel_rfl)
            have g95 : ∀ e_ ∈ [(((l.getD i actE.dflt)).w)], whyG h94 e_ := (all_one (show whyG h94 (((l.getD i actE.dflt)).w) from ⟨((Gl (l.getD i actE.dflt) (getD_mem (d := actE.dflt) (show i < l.length from (by omega)))).mono ((((((((l1.trans l5).trans l6).trans l11).trans l21).trans l84).trans l88).trans l89).trans l94)), by omega⟩))
            refine DW.only 12 (by kernel_rfl) ?_
            refine DOp.ex rfl (by kernel_rfl) rfl (by kernel_rfl) (q_app (e := 28) (bytes := 40) (cap := k93) (c2 := 1) (M0 := M88) (xs := ([] ++ (((rx.getD rw.length standE.dflt)).ws))) (ys := ([(((l.getD i actE.dflt)).w)])) G94 o93 (r95.mono ((PH.le_refl _).trans G94.imm)) rfl (by kernel_rfl) (by kernel_rfl) (by kernel_rfl) (by first | (simp [maxLen]; omega) | (simp only [maxLen, List.length_append, List.length_cons, List.length_nil]; omega) | (simp only [maxLen, List.length_append, List.length_nil]; omega) | (simp only [maxLen, List.length_append, List.length_cons, List.length_nil, List.length_take, List.length_drop]; omega) | (simp only [maxLen]; omega)) (by first | omega | (simp; omega) | (simp only [List.length_append, List.length_cons, List.length_nil]; omega) | (simp only [List.length_append, List.length_cons, List.length_nil, List.length_take, List.length_drop]; omega))) (fun v_ w96 p_ => by obtain ⟨a96, k96, M96, rfl, G96, o96, z96⟩ := p_; exact ⟨.inr (fun _ => (s86.reads.mono (((Ly.le (lyTabA h88 t (supA (rx.map absS) rw.length (datW (((l.getD i actE.dflt)).w))) (supC (rx.map absS) rw.length cm (datW (((l.getD i actE.dflt)).w))) (i + 1)) A88).trans o96.le).trans G96.own))), .inr (fun _ => (G96.imm _ _ (((((l21.trans l84).trans l88).trans l89).trans l94) _ _ hb11))), trivial⟩) ?_
            rintro _ w96 ⟨a96, k96, M96, rfl, G96, o96, z96⟩
            have g96 : ∀ e_ ∈ (([] ++ (((rx.getD rw.length standE.dflt)).ws)) ++ ([(((l.getD i actE.dflt)).w)])), whyG h94 e_ := all_app (all_up @whyG.mono l94 g93) g95
            refine DW.take (T := fun _ => True) 13 (eptr ax (rw.length * standE.sz)) rfl (by kernel_rfl) rfl (by kernel_rfl) (.inl fun _ => trivial) (by kernel_rfl) (Deaf.block (Deaf.thens (Deaf.block (Deaf.thens (Deaf.thens (Deaf.block (Deaf.thens (Deaf.body RetM.not_panicked)))))))) (fun w_ _ => (q_indexAddr (i := rw.length) (E := standE) (xs := rx) (e := 43) (c := cx) (k := .i64) (m := rx.length) rfl rfl (by kernel_rfl) (by kernel_rfl) (by kernel_rfl) (s86.reads.mono (((Ly.le (lyTabA h88 t (supA (rx.map absS) rw.length (datW (((l.getD i actE.dflt)).w))) (supC (rx.map absS) rw.length cm (datW (((l.getD i actE.dflt)).w))) (i + 1)) A88).trans o96.le).trans G96.own)) (by omega))) trivial ?_
            refine DW.take (T := fun _ => True) 14 (eptr ax (rw.length * standE.sz + 2)) rfl (by kernel_rfl) rfl (by kernel_rfl) (.inl fun _ => trivial) (by kernel_rfl) (Deaf.block (Deaf.thens (Deaf.block (Deaf.thens (Deaf.thens (Deaf.block (Deaf.thens (Deaf.body RetM.not_panicked)))))))) (fun w_ _ => (q_fieldAddr_e (i := rw.length) (k := rw.length * standE.sz) (off := 2) rfl (by kernel_rfl) (by kernel_rfl) (s86.reads.mono (((Ly.le (lyTabA h88 t (supA (rx.map absS) rw.length (datW (((l.getD i actE.dflt)).w))) (supC (rx.map absS) rw.length cm (datW (((l.getD i actE.dflt)).w))) (i + 1)) A88).trans o96.le).trans G96.own)) (by omega))) trivial ?_
            refine DW.only 15 (by kernel_rfl) ?_
            have hcap_ := o96.cap_le
            obtain ⟨h97, l97, G97, r97⟩ := o96.freeze G96
            obtain ⟨N98, s99, s100⟩ : ∃ N_, TabA h88 t (supA (rx.map absS) rw.length (datW (((l.getD i actE.dflt)).w))) (supC (rx.map absS) rw.length cm (datW (((l.getD i actE.dflt)).w))) (i + 1) M N_ ∧ Own 43 standE N_ M88 ax cx rx := Ly.swap (Ly.own (E := standE) 43 ax cx rx) (lyTabA h88 t (supA (rx.map absS) rw.length (datW (((l.getD i actE.dflt)).w))) (supC (rx.map absS) rw.length cm (datW (((l.getD i actE.dflt)).w))) (i + 1)) s86 A88
            have hcl_ : ((rx.getD rw.length standE.dflt)).ws.length ≤ ((rx.getD rw.length standE.dflt)).c := (g_row84 _ (getD_mem (d := standE.dflt) (show rw.length < rx.length from (by omega)))).2.2
            refine DOp.exu rfl (by kernel_rfl) rfl (by kernel_rfl) (q_storeF (v := (.slice a96 ((([] ++ (((rx.getD rw.length standE.dflt)).ws)) ++ ([(((l.getD i actE.dflt)).w)])).length) k96)) (xs := rx) (i := rw.length) 2 (StandD.mk (((rx.getD rw.length standE.dflt)).fact) (((rx.getD rw.length standE.dflt)).free) a96 (([] ++ (((rx.getD rw.length standE.dflt)).ws)) ++ ([(((l.getD i actE.dflt)).w)])) k96) G97 s100 (by omega) (by decide) rfl (by kernel_rfl) (by kernel_rfl) (by kernel_rfl) rfl rfl rfl) (fun w101 p_ => by obtain ⟨M101, G101, o101⟩ := p_; exact ⟨.inl (by kernel_rfl), .inl (by kernel_rfl), trivial⟩) ?_
            rintro w101 ⟨M101, G101, o101⟩
            have g101 := all_set (i := rw.length) (all_up @standG.mono (((l88.trans l89).trans l94).trans l97) g_row84) (show standG h97 (StandD.mk (((rx.getD rw.length standE.dflt)).fact) (((rx.getD rw.length standE.dflt)).free) a96 (([] ++ (((rx.getD rw.length standE.dflt)).ws)) ++ ([(((l.getD i actE.dflt)).w)])) k96) from ⟨(r97.mono (PH.le_refl _)), (all_up @whyG.mono l97 g96), (by first | omega | (dsimp only; first | omega | assumption) | simp)⟩)
            refine DW.done (by kernel_rfl) ?_
            refine EX.in_block ?_
            have hrs : (rx.set rw.length (StandD.mk (((rx.getD rw.length standE.dflt)).fact) (((rx.getD rw.length standE.dflt)).free) a96 (([] ++ (((rx.getD rw.length standE.dflt)).ws)) ++ ([(((l.getD i actE.dflt)).w)])) k96)).map absS = (supA (rx.map absS) rw.length (datW (((l.getD i actE.dflt)).w))) := sup_out hkx (fun q_ => by have q2_ := idx_ge q_; omega) (by simp [absS])
            have hokn : DsOk ((rx.set rw.length (StandD.mk (((rx.getD rw.length standE.dflt)).fact) (((rx.getD rw.length standE.dflt)).free) a96 (([] ++ (((rx.getD rw.length standE.dflt)).ws)) ++ ([(((l.getD i actE.dflt)).w)])) k96)).map absS) (supC (rx.map absS) rw.length cm (datW (((l.getD i actE.dflt)).w))) := DsOk.cast hrs.symm ((hok.of hof).sup hof.lt.1 _)
            have Bt : TabA h97 t ((rx.set rw.length (StandD.mk (((rx.getD rw.length standE.dflt)).fact) (((rx.getD rw.length standE.dflt)).free) a96 (([] ++ (((rx.getD rw.length standE.dflt)).ws)) ++ ([(((l.getD i actE.dflt)).w)])) k96)).map absS) (supC (rx.map absS) rw.length cm (datW (((l.getD i actE.dflt)).w))) (i + 1) M N98 := TabA.cast hrs.symm rfl ((TabA.mono ((l89.trans l94).trans l97) s99))
            exact EX.then_cut ⟨(rx.set rw.length (StandD.mk (((rx.getD rw.length standE.dflt)).fact) (((rx.getD rw.length standE.dflt)).free) a96 (([] ++ (((rx.getD rw.length standE.dflt)).ws)) ++ ([(((l.getD i actE.dflt)).w)])) k96)), ax, cx, (supC (rx.map absS) rw.length cm (datW (((l.getD i actE.dflt)).w)))⟩ ⟨(by kernel_rfl), (by kernel_rfl), (lk_val (x := (.slice ax rx.length cx)) (by kernel_rfl) (by rw [List.length_set])), (by kernel_rfl), trivial⟩ ⟨h97, N98, M101, (((l88.trans l89).trans l94).trans l97), G101, Bt, o101, g101, hokn⟩
           ·
            skip
            refine DOp.ex rfl (by kernel_rfl) rfl (by kernel_rfl) (q_newF (ob := (.cells #[(.int .i64 ((((l.getD i actE.dflt)).w).rule)), (.int .i64 ((((l.getD i actE.dflt)).w).alt)), (.slice ((((l.getD i actE.dflt)).w).a) ((((l.getD i actE.dflt)).w).facts.length) ((((l.getD i actE.dflt)).w).c))] 28 (0, 0))) G92 (fun b_ => .slice (some ⟨b_, 0, none⟩) 1 1) (fun u_ => by kernel_rfl)) (fun v_ w102 p_ => by obtain ⟨b102, h102, rfl, l102, G102, hb102, L102⟩ := p_; exact ⟨.inr (fun _ => (s86.reads.mono (((Ly.le (lyTabA h88 t (supA (rx.map absS) rw.length (datW (((l.getD i actE.dflt)).w))) (supC (rx.map absS) rw.length cm (datW (((l.getD i actE.dflt)).w))) (i + 1)) A88).trans o92.le).trans G102.own))), .inl (by kernel_rfl), trivial⟩) ?_
            rintro _ w102 ⟨b102, h102, rfl, l102, G102, hb102, L102⟩
            have r103 : RS h102 whyE (some ⟨b102, 0, none⟩) [(((l.getD i actE.dflt)).w)] := RS.blk hb102 (by kernel_rfl)
            have g103 : ∀ e_ ∈ [(((l.getD i actE.dflt)).w)], whyG h102 e_ := (all_one (show whyG h102 (((l.getD i actE.dflt)).w) from ⟨((Gl (l.getD i actE.dflt) (getD_mem (d := actE.dflt) (show i < l.length from (by omega)))).mono ((((((((l1.trans l5).trans l6).trans l11).trans l21).trans l84).trans l88).trans l89).trans l102)), by omega⟩))
            refine DW.only 8 (by kernel_rfl) ?_
            refine DOp.ex rfl (by kernel_rfl) rfl (by kernel_rfl) (q_app (e := 28) (bytes := 40) (cap := 0) (c2 := (((rx.getD rw.length standE.dflt)).c)) (M0 := M88) (xs := ([] : List _)) (ys := (((rx.getD rw.length standE.dflt)).ws)) G102 o92 ((g_row84 (rx.getD rw.length standE.dflt) (getD_mem (d := standE.dflt) (show rw.length < rx.length from (by omega)))).1.mono (((l88.trans l89).trans l102).trans G102.imm)) rfl (by kernel_rfl) (by kernel_rfl) (by kernel_rfl) (by first | (simp [maxLen]; omega) | (simp only [maxLen, List.length_append, List.length_cons, List.length_nil]; omega) | (simp only [maxLen, List.length_append, List.length_nil]; omega) | (simp only [maxLen, List.length_append, List.length_cons, List.length_nil, List.length_take, List.length_drop]; omega) | (simp only [maxLen]; omega)) (by first | omega | (simp; omega) | (simp only [List.length_append, List.length_cons, List.length_nil]; omega) | (simp only [List.length_append, List.length_cons, List.length_nil, List.length_take, List.length_drop]; omega))) (fun v_ w104 p_ => by obtain ⟨a104, k104, M104, rfl, G104, o104, z104⟩ := p_; exact ⟨.inl (by kernel_rfl), .inr (fun _ => (G104.imm _ _ (((((l21.trans l84).trans l88).trans l89).trans l102) _ _ hb11))), trivial⟩) ?_
            rintro _ w104 ⟨a104, k104, M104, rfl, G104, o104, z104⟩
            have g104 : ∀ e_ ∈ ([] ++ (((rx.getD rw.length standE.dflt)).ws)), whyG h102 e_ := all_app (all_up @whyG.mono l102 g92) (all_up @whyG.mono ((l88.trans l89).trans l102) (g_row84 (rx.getD rw.length standE.dflt) (getD_mem (d := standE.dflt) (show rw.length < rx.length from (by omega)))).2.1)
            refine DW.only 12 (by kernel_rfl) ?_
            refine DOp.ex rfl (by kernel_rfl) rfl (by kernel_rfl) (q_app (e := 28) (bytes := 40) (cap := k104) (c2 := 1) (M0 := M88) (xs := ([] ++ (((rx.getD rw.length standE.dflt)).ws))) (ys := ([(((l.getD i actE.dflt)).w)])) G104 o104 (r103.mono ((PH.le_refl _).trans G104.imm)) rfl (by kernel_rfl) (by kernel_rfl) (by kernel_rfl) (by first | (simp [maxLen]; omega) | (simp only [maxLen, List.length_append, List.length_cons, List.length_nil]; omega) | (simp only [maxLen, List.length_append, List.length_nil]; omega) | (simp only [maxLen, List.length_append, List.length_cons, List.length_nil, List.length_take, List.length_drop]; omega) | (simp only [maxLen]; omega)) (by first | omega | (simp; omega) | (simp only [List.length_append, List.length_cons, List.length_nil]; omega) | (simp only [List.length_append, List.length_cons, List.length_nil, List.length_take, List.length_drop]; omega))) (fun v_ w105 p_ => by obtain ⟨a105, k105, M105, rfl, G105, o105, z105⟩ := p_; exact ⟨.inr (fun _ => (s86.reads.mono (((Ly.le (lyTabA h88 t (supA (rx.map absS) rw.length (datW (((l.getD i actE.dflt)).w))) (supC (rx.map absS) rw.length cm (datW (((l.getD i actE.dflt)).w))) (i + 1)) A88).trans o105.le).trans G105.own))), .inr (fun _ => (G105.imm _ _ (((((l21.trans l84).trans l88).trans l89).trans l102) _ _ hb11))), trivial⟩) ?_
            rintro _ w105 ⟨a105, k105, M105, rfl, G105, o105, z105⟩
            have g105 : ∀ e_ ∈ (([] ++ (((rx.getD rw.length standE.dflt)).ws)) ++ ([(((l.getD i actE.dflt)).w)])), whyG h102 e_ := all_app g104 g103
            refine DW.take (T := fun _ => True) 13 (eptr ax (rw.length * standE.sz)) rfl (by kernel_rfl) rfl (by kernel_rfl) (.inl fun _ => trivial) (by kernel_rfl) (Deaf.block (Deaf.thens (Deaf.block (Deaf.thens (Deaf.thens (Deaf.block (Deaf.thens (Deaf.body RetM.not_panicked)))))))) (fun w_ _ => (q_indexAddr (i := rw.length) (E := standE) (xs := rx) (e := 43) (c := cx) (k := .i64) (m := rx.length) rfl rfl (by kernel_rfl) (by kernel_rfl) (by kernel_rfl) (s86.reads.mono (((Ly.le (lyTabA h88 t (supA (rx.map absS) rw.length (datW (((l.getD i actE.dflt)).w))) (supC (rx.map absS) rw.length cm (datW (((l.getD i actE.dflt)).w))) (i + 1)) A88).trans o105.le).trans G105.own)) (by omega))) trivial ?_
            refine DW.take (T := fun _ => True) 14 (eptr ax (rw.length * standE.sz + 2)) rfl (by kernel_rfl) rfl (by kernel_rfl) (.inl fun _ => trivial) (by kernel_rfl) (Deaf.block (Deaf.thens (Deaf.block (Deaf.thens (Deaf.thens (Deaf.block (Deaf.thens (Deaf.body RetM.not_panicked)))))))) (fun w_ _ => (q_fieldAddr_e (i := rw.length) (k := rw.length * standE.sz) (off := 2) rfl (by kernel_rfl) (by kernel_rfl) (s86.reads.mono (((Ly.le (lyTabA h88 t (supA (rx.map absS) rw.length (datW (((l.getD i actE.dflt)).w))) (supC (rx.map absS) rw.length cm (datW (((l.getD i actE.dflt)).w))) (i + 1)) A88).trans o105.le).trans G105.own)) (by omega))) trivial ?_
            refine DW.only 15 (by kernel_rfl) ?_
            have hcap_ := o105.cap_le
            obtain ⟨h106, l106, G106, r106⟩ := o105.freeze G105
            obtain ⟨N107, s108, s109⟩ : ∃ N_, TabA h88 t (supA (rx.map absS) rw.length (datW (((l.getD i actE.dflt)).w))) (supC (rx.map absS) rw.length cm (datW (((l.getD i actE.dflt)).w))) (i + 1) M N_ ∧ Own 43 standE N_ M88 ax cx rx := Ly.swap (Ly.own (E := standE) 43 ax cx rx) (lyTabA h88 t (supA (rx.map absS) rw.length (datW (((l.getD i actE.dflt)).w))) (supC (rx.map absS) rw.length cm (datW (((l.getD i actE.dflt)).w))) (i + 1)) s86 A88
            have hcl_ : ((rx.getD rw.length standE.dflt)).ws.length ≤ ((rx.getD rw.length standE.dflt)).c := (g_row84 _ (getD_mem (d := standE.dflt) (show rw.length < rx.length from (by omega)))).2.2
            refine DOp.exu rfl (by kernel_rfl) rfl (by kernel_rfl) (q_storeF (v := (.slice a105 ((([] ++ (((rx.getD rw.length standE.dflt)).ws)) ++ ([(((l.getD i actE.dflt)).w)])).length) k105)) (xs := rx) (i := rw.length) 2 (StandD.mk (((rx.getD rw.length standE.dflt)).fact) (((rx.getD rw.length standE.dflt)).free) a105 (([] ++ (((rx.getD rw.length standE.dflt)).ws)) ++ ([(((l.getD i actE.dflt)).w)])) k105) G106 s109 (by omega) (by decide) rfl (by kernel_rfl) (by kernel_rfl) (by kernel_rfl) rfl rfl rfl) (fun w110 p_ => by obtain ⟨M110, G110, o110⟩ := p_; exact ⟨.inl (by kernel_rfl), .inl (by kernel_rfl), trivial⟩) ?_
            rintro w110 ⟨M110, G110, o110⟩
            have g110 := all_set (i := rw.length) (all_up @standG.mono (((l88.trans l89).trans l102).trans l106) g_row84) (show standG h106 (StandD.mk (((rx.getD rw.length standE.dflt)).fact) (((rx.getD rw.length standE.dflt)).free) a105 (([] ++ (((rx.getD rw.length standE.dflt)).ws)) ++ ([(((l.getD i actE.dflt)).w)])) k105) from ⟨(r106.mono (PH.le_refl _)), (all_up @whyG.mono l106 g105), (by first | omega | (dsimp only; first | omega | assumption) | simp)⟩)
            refine DW.done (by kernel_rfl) ?_
            refine EX.in_block ?_
            have hrs : (rx.set rw.length (StandD.mk (((rx.getD rw.length standE.dflt)).fact) (((rx.getD rw.length standE.dflt)).free) a105 (([] ++ (((rx.getD rw.length standE.dflt)).ws)) ++ ([(((l.getD i actE.dflt)).w)])) k105)).map absS = (supA (rx.map absS) rw.length (datW (((l.getD i actE.dflt)).w))) := sup_out hkx (fun q_ => by have q2_ := idx_ge q_; omega) (by simp [absS])
            have hokn : DsOk ((rx.set rw.length (StandD.mk (((rx.getD rw.length standE.dflt)).fact) (((rx.getD rw.length standE.dflt)).free) a105 (([] ++ (((rx.getD rw.length standE.dflt)).ws)) ++ ([(((l.getD i actE.dflt)).w)])) k105)).map absS) (supC (rx.map absS) rw.length cm (datW (((l.getD i actE.dflt)).w))) := DsOk.cast hrs.symm ((hok.of hof).sup hof.lt.1 _)
            have Bt : TabA h106 t ((rx.set rw.length (StandD.mk (((rx.getD rw.length standE.dflt)).fact) (((rx.getD rw.length standE.dflt)).free) a105 (([] ++ (((rx.getD rw.length standE.dflt)).ws)) ++ ([(((l.getD i actE.dflt)).w)])) k105)).map absS) (supC (rx.map absS) rw.length cm (datW (((l.getD i actE.dflt)).w))) (i + 1) M N107 := TabA.cast hrs.symm rfl ((TabA.mono ((l89.trans l102).trans l106) s108))
            exact EX.then_cut ⟨(rx.set rw.length (StandD.mk (((rx.getD rw.length standE.dflt)).fact) (((rx.getD rw.length standE.dflt)).free) a105 (([] ++ (((rx.getD rw.length standE.dflt)).ws)) ++ ([(((l.getD i actE.dflt)).w)])) k105)), ax, cx, (supC (rx.map absS) rw.length cm (datW (((l.getD i actE.dflt)).w)))⟩ ⟨(by kernel_rfl), (by kernel_rfl), (lk_val (x := (.slice ax rx.length cx)) (by kernel_rfl) (by rw [List.length_set])), (by kernel_rfl), trivial⟩ ⟨h106, N107, M110, (((l88.trans l89).trans l102).trans l106), G110, Bt, o110, g110, hokn⟩
          ·
           skip
           refine DOp.ex rfl (by kernel_rfl) rfl (by kernel_rfl) (q_newF (ob := (.cells #[(.int .i64 ((((l.getD i actE.dflt)).w).rule)), (.int .i64 ((((l.getD i actE.dflt)).w).alt)), (.slice ((((l.getD i actE.dflt)).w).a) ((((l.getD i actE.dflt)).w).facts.length) ((((l.getD i actE.dflt)).w).c))] 28 (0, 0))) (G89.drew) (fun b_ => .slice (some ⟨b_, 0, none⟩) 1 1) (fun u_ => by kernel_rfl)) (fun v_ w111 p_ => by obtain ⟨b111, h111, rfl, l111, G111, hb111, L111⟩ := p_; exact ⟨.inr (fun _ => (s86.reads.mono ((Ly.le (lyTabA h88 t (supA (rx.map absS) rw.length (datW (((l.getD i actE.dflt)).w))) (supC (rx.map absS) rw.length cm (datW (((l.getD i actE.dflt)).w))) (i + 1)) A88).trans G111.own))), .inl (by kernel_rfl), trivial⟩) ?_
           rintro _ w111 ⟨b111, h111, rfl, l111, G111, hb111, L111⟩
           have r112 : RS h111 whyE (some ⟨b111, 0, none⟩) [(((l.getD i actE.dflt)).w)] := RS.blk hb111 (by kernel_rfl)
           have g112 : ∀ e_ ∈ [(((l.getD i actE.dflt)).w)], whyG h111 e_ := (all_one (show whyG h111 (((l.getD i actE.dflt)).w) from ⟨((Gl (l.getD i actE.dflt) (getD_mem (d := actE.dflt) (show i < l.length from (by omega)))).mono ((((((((l1.trans l5).trans l6).trans l11).trans l21).trans l84).trans l88).trans l89).trans l111)), by omega⟩))
           refine DW.only 2 (by kernel_rfl) ?_
           refine DOp.ex rfl (by kernel_rfl) rfl (by kernel_rfl) (q_newB (ob := (.cells #[] 28 (0, 0))) G111 (fun b_ => .slice (some ⟨b_, 0, none⟩) 0 0) (fun u_ => by kernel_rfl)) (fun v_ w113 p_ => by obtain ⟨b113, M113, rfl, G113, B113, L113⟩ := p_; exact ⟨.inr (fun _ => (s86.reads.mono (((Ly.le (lyTabA h88 t (supA (rx.map absS) rw.length (datW (((l.getD i actE.dflt)).w))) (supC (rx.map absS) rw.length cm (datW (((l.getD i actE.dflt)).w))) (i + 1)) A88).trans B113.le).trans G113.own))), .inr (fun _ => (G113.imm _ _ (((((l21.trans l84).trans l88).trans l89).trans l111) _ _ hb11))), trivial⟩) ?_
           rintro _ w113 ⟨b113, M113, rfl, G113, B113, L113⟩
           have o113 : Own 28 whyE M88 M113 (some ⟨b113, 0, none⟩) 0 ([] : List _) := Own.lit2 B113 (by kernel_rfl) (by kernel_rfl) (by decide)
           have g113 : ∀ e_ ∈ ([] : List _), whyG h111 e_ := all_nil
           refine DW.only 8 (by kernel_rfl) ?_
           refine DOp.ex rfl (by kernel_rfl) rfl (by kernel_rfl) (q_app (e := 28) (bytes := 40) (cap := 0) (c2 := (((rx.getD rw.length standE.dflt)).c)) (M0 := M88) (xs := ([] : List _)) (ys := (((rx.getD rw.length standE.dflt)).ws)) G113 o113 ((g_row84 (rx.getD rw.length standE.dflt) (getD_mem (d := standE.dflt) (show rw.length < rx.length from (by omega)))).1.mono (((l88.trans l89).trans l111).trans G113.imm)) rfl (by kernel_rfl) (by kernel_rfl) (by kernel_rfl) (by first | (simp [maxLen]; omega) | (simp only [maxLen, List.length_append, List.length_cons, List.length_nil]; omega) | (simp only [maxLen, List.length_append, List.length_nil]; omega) | (simp only [maxLen, List.length_append, List.length_cons, List.length_nil, List.length_take, List.length_drop]; omega) | (simp only [maxLen]; omega)) (by first | omega | (simp; omega) | (simp only [List.length_append, List.length_cons, List.length_nil]; omega) | (simp only [List.length_append, List.length_cons, List.length_nil, List.length_take, List.length_drop]; omega))) (fun v_ w114 p_ => by obtain ⟨a114, k114, M114, rfl, G114, o114, z114⟩ := p_; exact ⟨.inl (by kernel_rfl), .inr (fun _ => (G114.imm _ _ (((((l21.trans l84).trans l88).trans l89).trans l111) _ _ hb11))), trivial⟩) ?_
           rintro _ w114 ⟨a114, k114, M114, rfl, G114, o114, z114⟩
           have g114 : ∀ e_ ∈ ([] ++ (((rx.getD rw.length standE.dflt)).ws)), whyG h111 e_ := all_app g113 (all_up @whyG.mono ((l88.trans l89).trans l111) (g_row84 (rx.getD rw.length standE.dflt) (getD_mem (d := standE.dflt) (show rw.length < rx.length from (by omega)))).2.1)
           refine DW.only 12 (by kernel_rfl) ?_
           refine DOp.ex rfl (by kernel_rfl) rfl (by kernel_rfl) (q_app (e := 28) (bytes := 40) (cap := k114) (c2 := 1) (M0 := M88) (xs := ([] ++ (((rx.getD rw.length standE.dflt)).ws))) (ys := ([(((l.getD i actE.dflt)).w)])) G114 o114 (r112.mono ((PH.le_refl _).trans G114.imm)) rfl (by kernel_rfl) (by kernel_rfl) (by kernel_rfl) (by first | (simp [maxLen]; omega) | (simp only [maxLen, List.length_append, List.length_cons, List.length_nil]; omega) | (simp only [maxLen, List.length_append, List.length_nil]; omega) | (simp only [maxLen, List.length_append, List.length_cons, List.length_nil, List.length_take, List.length_drop]; omega) | (simp only [maxLen]; omega)) (by first | omega | (simp; omega) | (simp only [List.length_append, List.length_cons, List.length_nil]; omega) | (simp only [List.length_append, List.length_cons, List.length_nil, List.length_take, List.length_drop]; omega))) (fun v_ w115 p_ => by obtain ⟨a115, k115, M115, rfl, G115, o115, z115⟩ := p_; exact ⟨.inr (fun _ => (s86.reads.mono (((Ly.le (lyTabA h88 t (supA (rx.map absS) rw.length (datW (((l.getD i actE.dflt)).w))) (supC (rx.map absS) rw.length cm (datW (((l.getD i actE.dflt)).w))) (i + 1)) A88).trans o115.le).trans G115.own))), .inr (fun _ => (G115.imm _ _ (((((l21.trans l84).trans l88).trans l89).trans l111) _ _ hb11))), trivial⟩) ?_
           rintro _ w115 ⟨a115, k115, M115, rfl, G115, o115, z115⟩
           have g115 : ∀ e_ ∈ (([] ++ (((rx.getD rw.length standE.dflt)).ws)) ++ ([(((l.getD i actE.dflt)).w)])), whyG h111 e_ := all_app g114 g112
           refine DW.take (T := fun _ => True) 13 (eptr ax (rw.length * standE.sz)) rfl (by kernel_rfl) rfl (by kernel_rfl) (.inl fun _ => trivial) (by kernel_rfl) (Deaf.block (Deaf.thens (Deaf.block (Deaf.thens (Deaf.thens (Deaf.block (Deaf.thens (Deaf.body RetM.not_panicked)))))))) (fun w_ _ => (q_indexAddr (i := rw.length) (E := standE) (xs := rx) (e := 43) (c := cx) (k := .i64) (m := rx.length) rfl rfl (by kernel_rfl) (by kernel_rfl) (by kernel_rfl) (s86.reads.mono (((Ly.le (lyTabA h88 t (supA (rx.map absS) rw.length (datW (((l.getD i actE.dflt)).w))) (supC (rx.map absS) rw.length cm (datW (((l.getD i actE.dflt)).w))) (i + 1)) A88).trans o115.le).trans G115.own)) (by omega))) trivial ?_
           refine DW.take (T := fun _ => True) 14 (eptr ax (rw.length * standE.sz + 2)) rfl (by kernel_rfl) rfl (by kernel_rfl) (.inl fun _ => trivial) (by kernel_rfl) (Deaf.block (Deaf.thens (Deaf.block (Deaf.thens (Deaf.thens (Deaf.block (Deaf.thens (Deaf.body RetM.not_panicked)))))))) (fun w_ _ => (q_fieldAddr_e (i := rw.length) (k := rw.length * standE.sz) (off := 2) rfl (by kernel_rfl) (by kernel_rfl) (s86.reads.mono (((Ly.le (lyTabA h88 t (supA (rx.map absS) rw.length (datW (((l.getD i actE.dflt)).w))) (supC (rx.map absS) rw.length cm (datW (((l.getD i actE.dflt)).w))) (i + 1)) A88).trans o115.le).trans G115.own)) (by omega))) trivial ?_
           refine DW.only 15 (by kernel_rfl) ?_
           have hcap_ := o115.cap_le
           obtain ⟨h116, l116, G116, r116⟩ := o115.freeze G115
           obtain ⟨N117, s118, s119⟩ : ∃ N_, TabA h88 t (supA (rx.map absS) rw.length (datW (((l.getD i actE.dflt)).w))) (supC (rx.map absS) rw.length cm (datW (((l.getD i actE.dflt)).w))) (i + 1) M N_ ∧ Own 43 standE N_ M88 ax cx rx := Ly.swap (Ly.own (E := standE) 43 ax cx rx) (lyTabA h88 t (supA (rx.map absS) rw.length (datW (((l.getD i actE.dflt)).w))) (supC (rx.map absS) rw.length cm (datW (((l.getD i actE.dflt)).w))) (i + 1)) s86 A88
           have hcl_ : ((rx.getD rw.length standE.dflt)).ws.length ≤ ((rx.getD rw.length standE.dflt)).c := (g_row84 _ (getD_mem (d := standE.dflt) (show rw.length < rx.length from (by omega)))).2.2
           refine DOp.exu rfl (by kernel_rfl) rfl (by kernel_rfl) (q_storeF (v := (.slice a115 ((([] ++ (((rx.getD rw.length standE.dflt)).ws)) ++ ([(((l.getD i actE.dflt)).w)])).length) k115)) (xs := rx) (i := rw.length) 2 (StandD.mk (((rx.getD rw.length standE.dflt)).fact) (((rx.getD rw.length standE.dflt)).free) a115 (([] ++ (((rx.getD rw.length standE.dflt)).ws)) ++ ([(((l.getD i actE.dflt)).w)])) k115) G116 s119 (by omega) (by decide) rfl (by kernel_rfl) (by kernel_rfl) (by kernel_rfl) rfl rfl rfl) (fun w120 p_ => by obtain ⟨M120, G120, o120⟩ := p_; exact ⟨.inl (by kernel_rfl), .inl (by kernel_rfl), trivial⟩) ?_
           rintro w120 ⟨M120, G120, o120⟩
           have g120 := all_set (i := rw.length) (all_up @standG.mono (((l88.trans l89).trans l111).trans l116) g_row84) (show standG h116 (StandD.mk (((rx.getD rw.length standE.dflt)).fact) (((rx.getD rw.length standE.dflt)).free) a115 (([] ++ (((rx.getD rw.length standE.dflt)).ws)) ++ ([(((l.getD i actE.dflt)).w)])) k115) from ⟨(r116.mono (PH.le_refl _)), (all_up @whyG.mono l116 g115), (by first | omega | (dsimp only; first | omega | assumption) | simp)⟩)
           refine DW.done (by kernel_rfl) ?_
           refine EX.in_block ?_
           have hrs : (rx.set rw.length (StandD.mk (((rx.getD rw.length standE.dflt)).fact) (((rx.getD rw.length standE.dflt)).free) a115 (([] ++ (((rx.getD rw.length standE.dflt)).ws)) ++ ([(((l.getD i actE.dflt)).w)])) k115)).map absS = (supA (rx.map absS) rw.length (datW (((l.getD i actE.dflt)).w))) := sup_out hkx (fun q_ => by have q2_ := idx_ge q_; omega) (by simp [absS])
           have hokn : DsOk ((rx.set rw.length (StandD.mk (((rx.getD rw.length standE.dflt)).fact) (((rx.getD rw.length standE.dflt)).free) a115 (([] ++ (((rx.getD rw.length standE.dflt)).ws)) ++ ([(((l.getD i actE.dflt)).w)])) k115)).map absS) (supC (rx.map absS) rw.length cm (datW (((l.getD i actE.dflt)).w))) := DsOk.cast hrs.symm ((hok.of hof).sup hof.lt.1 _)
           have Bt : TabA h116 t ((rx.set rw.length (StandD.mk (((rx.getD rw.length standE.dflt)).fact) (((rx.getD rw.length standE.dflt)).free) a115 (([] ++ (((rx.getD rw.length standE.dflt)).ws)) ++ ([(((l.getD i actE.dflt)).w)])) k115)).map absS) (supC (rx.map absS) rw.length cm (datW (((l.getD i actE.dflt)).w))) (i + 1) M N117 := TabA.cast hrs.symm rfl ((TabA.mono ((l89.trans l111).trans l116) s118))
           exact EX.then_cut ⟨(rx.set rw.length (StandD.mk (((rx.getD rw.length standE.dflt)).fact) (((rx.getD rw.length standE.dflt)).free) a115 (([] ++ (((rx.getD rw.length standE.dflt)).ws)) ++ ([(((l.getD i actE.dflt)).w)])) k115)), ax, cx, (supC (rx.map absS) rw.length cm (datW (((l.getD i actE.dflt)).w)))⟩ ⟨(by kernel_rfl), (by kernel_rfl), (lk_val (x := (.slice ax rx.length cx)) (by kernel_rfl) (by rw [List.length_set])), (by kernel_rfl), trivial⟩ ⟨h116, N117, M120, (((l88.trans l89).trans l111).trans l116), G120, Bt, o120, g120, hokn⟩
         ·
          skip
          have d121 := of_decide_eq_false c90
          refine CW.skip ?_
          refine EX.in_block ?_
          have hrs : rx.map absS = (supA (rx.map absS) rw.length (datW (((l.getD i actE.dflt)).w))) := sup_in hkx (Classical.byContradiction fun q_ => idx_no q_ (by omega))
          have hokn : DsOk (rx.map absS) (supC (rx.map absS) rw.length cm (datW (((l.getD i actE.dflt)).w))) := DsOk.cast hrs.symm ((hok.of hof).sup hof.lt.1 _)
          have Bt : TabA h89 t (rx.map absS) (supC (rx.map absS) rw.length cm (datW (((l.getD i actE.dflt)).w))) (i + 1) N85 M88 := TabA.cast hrs.symm rfl ((TabA.mono l89 A88))
          obtain ⟨N122, s123, s124⟩ : ∃ N_, TabA h89 t (rx.map absS) (supC (rx.map absS) rw.length cm (datW (((l.getD i actE.dflt)).w))) (i + 1) M N_ ∧ Own 43 standE N_ M88 ax cx rx := Ly.swap (Ly.own (E := standE) 43 ax cx rx) (lyTabA h89 t (rx.map absS) (supC (rx.map absS) rw.length cm (datW (((l.getD i actE.dflt)).w))) (i + 1)) s86 Bt
          exact EX.then_cut ⟨rx, ax, cx, (supC (rx.map absS) rw.length cm (datW (((l.getD i actE.dflt)).w)))⟩ ⟨(by kernel_rfl), (by kernel_rfl), (by kernel_rfl), (by kernel_rfl), trivial⟩ ⟨h89, N122, M88, (l88.trans l89), G89, s123, s124, (all_up @standG.mono (l88.trans l89) g_row84), hokn⟩
        ·
         skip
         rintro ⟨rw2, ao2, co2, cm2⟩ w125 ⟨h125, M0_125, M1_125, l125, G125, o_tab125, o_row125, g_row125, hok2⟩
         try dsimp only at *
         refine CW.seq ?_
         refine CW.region ?_
         refine WL.q (.pointer (some ⟨t, 0, none⟩)) (by kernel_rfl) rfl (by kernel_rfl) (by kernel_rfl) ?_
         refine WL.q (.slice ao2 rw2.length co2) (by kernel_rfl) rfl (by kernel_rfl) (by kernel_rfl) ?_
         refine WL.call (by kernel_rfl) rfl (by kernel_rfl) (by kernel_rfl) (tell_spec G125 o_tab125 o_row125.le (by omega) o_row125 (PH.le_refl _) g_row125 rfl hok2.1) (Ret.elim ?_)
         rintro w126 h126 _ l126 G126 rfl
         refine WL.q (.bool false) (by kernel_rfl) rfl (by kernel_rfl) (by kernel_rfl) ?_
         refine WL.nil ?_
         refine EX.then_code ?_
         refine CW.cond_f (by kernel_rfl) (by kernel_rfl) ?_
         refine CW.skip ?_
         refine EX.in_block ?_
         refine EX.then_code ?_
         refine CW.region ?_
         refine WL.q (.int .i64 (i : Int)) (by kernel_rfl) rfl (by kernel_rfl) (by kernel_rfl) ?_
         refine WL.q (.int .i64 ((i + 1 : Nat) : Int)) (by kernel_rfl) rfl (by kernel_rfl) (q_int (x := IntKind.i64.wrap ((i : Int) + 1)) (by kernel_rfl) (wrap_to (by omega) (by omega) (by omega))) ?_
         refine WL.q (.int .i64 ((i + 1 : Nat) : Int)) (by kernel_rfl) rfl (by kernel_rfl) (by kernel_rfl) ?_
         refine WL.nil ?_
         exact EX.then_loop ⟨i + 1, rw2, ao2, co2, cm2⟩ ⟨(by kernel_rfl), (by kernel_rfl), (by kernel_rfl), (lk_int (x := ((i + 1 : Nat) : Int)) (by kernel_rfl) (by first | omega | (dsimp only; omega) | rfl | (dsimp only; rfl))), trivial⟩ ⟨h126, M0_125, M1_125, (((((l6.trans l11).trans l21).trans l84).trans l125).trans l126), G126, (TabA.mono l126 o_tab125), o_row125, (all_up @standG.mono l126 g_row125), (by first | omega | assumption | (dsimp only [List.length_nil, List.length_append, List.length_cons]; omega)), hok2⟩ (by first | omega | (dsimp only; omega))
      ·
       skip
       have d127 := ne_of_beq_false c59
       refine CW.skip ?_
       refine EX.then_code ?_
       refine CW.cut (β := List StandD × Option Addr × Nat × List WD) (fun x_ => [(0, (.slice a l.length c)), (3, (.pointer (some ⟨t, 0, none⟩))), (4, (.slice x_.2.1 x_.1.length x_.2.2.1)), (5, (.int .i64 (i : Int)))]) (fun x_ w_ => ∃ h_ M0_ M1_, (PH.le h21 h_) ∧ (Wld K w_ h_ M1_) ∧ (TabA h_ t (x_.1.map absS) x_.2.2.2 (i + 1) M M0_) ∧ (Own 43 standE M0_ M1_ x_.2.1 x_.2.2.1 x_.1) ∧ (∀ e_ ∈ x_.1, standG h_ e_) ∧ (DsOk (x_.1.map absS) x_.2.2.2)) ?_ ?_
       ·
        skip
        refine CW.seq ?_
        refine CW.region ?_
        refine WL.q (.pointer (some ⟨b9, 0, none⟩)) (by kernel_rfl) rfl (by kernel_rfl) (by kernel_rfl) ?_
        refine WL.q (.int .i64 (((l.getD i actE.dflt)).op)) (by kernel_rfl) rfl (by kernel_rfl) (q_load (off := 0) rfl (by kernel_rfl) (by kernel_rfl) (G21.imm _ _ (l21 _ _ hb11)) (by kernel_rfl)) ?_
        refine WL.nil ?_
        refine EX.then_code ?_
        refine CW.block ?_
        refine CW.seq ?_
        refine CW.region ?_
        refine WL.q (.bool ((((l.getD i actE.dflt)).op : Int) == 1)) (by kernel_rfl) rfl (by kernel_rfl) (by kernel_rfl) ?_
        refine WL.q (.bool ((((l.getD i actE.dflt)).op : Int) == 1)) (by kernel_rfl) rfl (by kernel_rfl) (by kernel_rfl) ?_
        refine WL.nil ?_
        refine EX.then_code ?_
        refine CW.cond_f (by kernel_rfl) ((show _ = Value.bool ((((l.getD i actE.dflt)).op : Int) == 1) by kernel_rfl).trans (congrArg Value.bool (c22))) ?_
        refine CW.seq ?_
        refine CW.region ?_
        refine WL.q (.bool ((((l.getD i actE.dflt)).op : Int) == 2)) (by kernel_rfl) rfl (by kernel_rfl) (by kernel_rfl) ?_
        refine WL.q (.bool ((((l.getD i actE.dflt)).op : Int) == 2)) (by kernel_rfl) rfl (by kernel_rfl) (by kernel_rfl) ?_
        refine WL.nil ?_
        refine EX.then_code ?_
        refine CW.cond_f (by kernel_rfl) ((show _ = Value.bool ((((l.getD i actE.dflt)).op : Int) == 2) by kernel_rfl).trans (congrArg Value.bool (c59))) ?_
        refine CW.seq ?_
        refine CW.region ?_
        refine WL.q (.bool ((((l.getD i actE.dflt)).op : Int) == 3)) (by kernel_rfl) rfl (by kernel_rfl) (by kernel_rfl) ?_
        refine WL.q (.bool ((((l.getD i actE.dflt)).op : Int) == 3)) (by kernel_rfl) rfl (by kernel_rfl) (by kernel_rfl) ?_
        refine WL.nil ?_
        refine EX.then_code ?_
        refine CW.cond ((((l.getD i actE.dflt)).op : Int) == 3) (by kernel_rfl) (by kernel_rfl) (fun c128 => ?_) (fun c128 => ?_)
        ·
         skip
         have d129 := eq_of_beq c128
         refine CW.seq ?_
         refine CW.region ?_
         rcases (trivial : True) with _
         ·
          skip
          have hnT : ((rw.map absS).map (·.1)).Nodup := (o_tab6.ok).1
          refine WL.q (.pointer (some ⟨t, 0, none⟩)) (by kernel_rfl) rfl (by kernel_rfl) (by kernel_rfl) ?_
          refine WL.q (.pointer (some ⟨b9, 1, none⟩)) (by kernel_rfl) rfl (by kernel_rfl) (by kernel_rfl) ?_
          refine WL.q (.int .i64 (((l.getD i actE.dflt)).fact)) (by kernel_rfl) rfl (by kernel_rfl) (q_load (off := 1) rfl (by kernel_rfl) (by kernel_rfl) (G21.imm _ _ (l21 _ _ hb11)) (by kernel_rfl)) ?_
          obtain ⟨N130, s131, s132⟩ : ∃ N_, Own 43 standE M N_ ao co rw ∧ TabA h6 t (rw.map absS) cm i N_ M1_6 := Ly.swap (lyTabA h6 t (rw.map absS) cm i) (Ly.own (E := standE) 43 ao co rw) o_tab6 o_row6
          refine WL.call (by kernel_rfl) rfl (by kernel_rfl) (by kernel_rfl) (forgetA_spec G21 (TabA.mono (l11.trans l21) s132) ((l.getD i actE.dflt)).fact (by omega)) (RetM.elim ?_)
          rintro w133 h133 M133 _ l133 G133 ⟨rfl, A133⟩
          refine WL.nil ?_
          refine EX.then_code ?_
          refine CW.seq ?_
          refine CW.region ?_
          rcases (trivial : True) with _
          ·
           skip
           refine WL.q (.int .i64 (-1)) (by kernel_rfl) rfl (by kernel_rfl) (by kernel_rfl) ?_
           refine WL.q (.bool false) (by kernel_rfl) rfl (by kernel_rfl) (by kernel_rfl) ?_
           refine WL.nil ?_
           refine EX.then_code ?_
           refine CW.cond_f (by kernel_rfl) (by kernel_rfl) ?_
           refine CW.skip ?_
           refine EX.in_block ?_
           have hrs : rw.map absS = ((rw.map absS).filter fun d => decide (d.1 ≠ ((l.getD i actE.dflt)).fact)) := (forget_no (fun d hd => by obtain ⟨s, hs, rfl⟩ := List.mem_map.1 hd; exact hno s hs)).symm
           have hokn : DsOk (rw.map absS) (sweepA ((rw.map absS).filter fun d => decide (d.1 ≠ ((l.getD i actE.dflt)).fact)) cm) := DsOk.cast hrs.symm (hok.forget _)
           have Bt : TabA h133 t (rw.map absS) (sweepA ((rw.map absS).filter fun d => decide (d.1 ≠ ((l.getD i actE.dflt)).fact)) cm) (i + 1) N130 M133 := TabA.cast hrs.symm rfl (TabA.up (by omega) A133)
           obtain ⟨N134, s135, s136⟩ : ∃ N_, TabA h133 t (rw.map absS) (sweepA ((rw.map absS).filter fun d => decide (d.1 ≠ ((l.getD i actE.dflt)).fact)) cm) (i + 1) M N_ ∧ Own 43 standE N_ M133 ao co rw := Ly.swap (Ly.own (E := standE) 43 ao co rw) (lyTabA h133 t (rw.map absS) (sweepA ((rw.map absS).filter fun d => decide (d.1 ≠ ((l.getD i actE.dflt)).fact)) cm) (i + 1)) s131 Bt
           exact EX.then_cut ⟨rw, ao, co, (sweepA ((rw.map absS).filter fun d => decide (d.1 ≠ ((l.getD i actE.dflt)).fact)) cm)⟩ ⟨(by kernel_rfl), (by kernel_rfl), (by kernel_rfl), (by kernel_rfl), trivial⟩ ⟨h133, N134, M133, l133, G133, s135, s136, (all_up @standG.mono ((l11.trans l21).trans l133) g_row6), hokn⟩
        ·
         skip
         have d137 := ne_of_beq_false c128
         refine CW.seq ?_
         refine CW.region ?_
         refine WL.q (.bool ((((l.getD i actE.dflt)).op : Int) == 4)) (by kernel_rfl) rfl (by kernel_rfl) (by kernel_rfl) ?_
         refine WL.q (.bool ((((l.getD i actE.dflt)).op : Int) == 4)) (by kernel_rfl) rfl (by kernel_rfl) (by kernel_rfl) ?_
         refine WL.nil ?_
         refine EX.then_code ?_
         refine CW.cond ((((l.getD i actE.dflt)).op : Int) == 4) (by kernel_rfl) (by kernel_rfl) (fun c138 => ?_) (fun c138 => ?_)
         ·
          skip
          have d139 := eq_of_beq c138
          refine CW.seq ?_
          refine CW.region ?_
          refine WL.q (.slice none 0 0) (by kernel_rfl) rfl (by kernel_rfl) (by kernel_rfl) ?_
          refine WL.nil ?_
          refine EX.then_code ?_
          refine CW.seq ?_
          refine CW.seq ?_
          refine CW.region ?_
          refine WL.q (.int .i64 0) (by kernel_rfl) rfl (by kernel_rfl) (by kernel_rfl) ?_
          refine WL.nil ?_
          refine EX.then_code ?_
          refine CW.block ?_
          refine CW.loop (β := Nat × List StandD × List Int × Option Addr × Nat) (fun x_ => [(0, (.slice a l.length c)), (3, (.pointer (some ⟨t, 0, none⟩))), (4, (.slice ao rw.length co)), (5, (.int .i64 (i : Int))), (6, (.pointer (some ⟨b9, 0, none⟩))), (8, (.slice x_.2.2.2.1 x_.2.2.1.length x_.2.2.2.2)), (9, (.int .i64 (x_.1 : Int)))]) (fun x_ w_ => ∃ h_ M0_ M1_, (PH.le h21 h_) ∧ (Wld K w_ h_ M1_) ∧ (Own 43 standE M0_6 M0_ ao co x_.2.1) ∧ (Own 3 intE M0_ M1_ x_.2.2.2.1 x_.2.2.2.2 x_.2.2.1) ∧ (∀ e_ ∈ x_.2.1, standG h_ e_) ∧ (x_.1 ≤ rw.length) ∧ (x_.2.1.length = rw.length) ∧ (x_.2.1.map absS = CutJ (rw.map absS) (datW (((l.getD i actE.dflt)).w)) x_.1) ∧ (x_.2.2.1 = (((rw.map absS).take x_.1).filter (lostd (datW (((l.getD i actE.dflt)).w)))).map (·.1)) ∧ (x_.2.2.1.length ≤ x_.1)) (fun x_ => rw.length - x_.1) ⟨0, rw, [], none, 0⟩ ⟨(by kernel_rfl), (by kernel_rfl), (by kernel_rfl), (by kernel_rfl), (by kernel_rfl), (by kernel_rfl), (lk_int (x := 0) (by kernel_rfl) (by first | omega | (dsimp only; omega) | rfl | (dsimp only; rfl))), trivial⟩ ⟨h21, M1_6, M1_6, (PH.le_refl _), G21, o_row6, (Own.nil 3 intE M1_6), (all_up @standG.mono (l11.trans l21) g_row6), (by first | omega | assumption | (dsimp only [List.length_nil, List.length_append, List.length_cons]; omega)), rfl, (cutJ_zero _ _), rfl, (Nat.le_refl _)⟩ ?_
          rintro ⟨j, rj, os, ag, cg⟩ w140 ⟨h140, M0_140, M1_140, l140, G140, o_row140, o_gone140, g_row140, hj, hjl, hrj, hos, hol⟩
          try dsimp only at *
          have hwj : ∀ s ∈ rj, s.ws.length ≤ i := cutJ_lens hrj hwl
          have hdj : ∀ s ∈ rj, (s.ws.map datW).Nodup := cutJ_nodup hrj hok.2
          refine CW.seq ?_
          refine CW.seq ?_
          refine CW.region ?_
          refine WL.q (.int .i64 (j : Int)) (by kernel_rfl) rfl (by kernel_rfl) (by kernel_rfl) ?_
          refine WL.q (.slice ao rw.length co) (by kernel_rfl) rfl (by kernel_rfl) (by kernel_rfl) ?_
          refine WL.q (.int .i64 (rw.length : Int)) (by kernel_rfl) rfl (by kernel_rfl) (by kernel_rfl) ?_
          refine WL.q (.bool (decide ((j : Int) < (rw.length : Int)))) (by kernel_rfl) rfl (by kernel_rfl) (by kernel_rfl) ?_
          refine WL.nil ?_
          refine EX.then_code ?_
          refine CW.cond (decide ((j : Int) < (rw.length : Int))) (by kernel_rfl) (by kernel_rfl) (fun c141 => ?_) (fun c141 => ?_)
          ·
           skip
           have d142 := of_decide_eq_true c141
           refine CW.skip ?_
           refine EX.then_code ?_
           refine CW.seq ?_
           refine CW.block ?_
           refine CW.seq ?_
           refine CW.draw (by kernel_rfl) [(4, fun w_ => RS (PH.all w_) standE ao rj), (6, fun w_ => PH.all w_ b9 = some (.cells #[(.int .i64 (((l.getD i actE.dflt)).op)), (.int .i64 (((l.getD i actE.dflt)).fact)), (.int .i64 ((((l.getD i actE.dflt)).w).rule)), (.int .i64 ((((l.getD i actE.dflt)).w).alt)), (.slice ((((l.getD i actE.dflt)).w).a) ((((l.getD i actE.dflt)).w).facts.length) ((((l.getD i actE.dflt)).w).c))] 40 (0, 0)))] ?_
           refine DW.take (T := fun _ => True) 0 (.slice ao rw.length co) rfl (by kernel_rfl) rfl (by kernel_rfl) (.inl fun _ => trivial) (by kernel_rfl) (Deaf.thens (Deaf.block (Deaf.thens (Deaf.thens (Deaf.block (Deaf.thens (Deaf.block (Deaf.thens (Deaf.block (Deaf.thens (Deaf.thens (Deaf.block (Deaf.thens (Deaf.body RetM.not_panicked)))))))))))))) (fun w_ _ => (by kernel_rfl)) trivial ?_
           refine DW.take (T := fun _ => True) 1 (.int .i64 (j : Int)) rfl (by kernel_rfl) rfl (by kernel_rfl) (.inl fun _ => trivial) (by kernel_rfl) (Deaf.thens (Deaf.block (Deaf.thens (Deaf.thens (Deaf.block (Deaf.thens (Deaf.block (Deaf.thens (Deaf.block (Deaf.thens (Deaf.thens (Deaf.block (Deaf.thens (Deaf.body RetM.not_panicked)))))))))))))) (fun w_ _ => (by kernel_rfl)) trivial ?_
           refine DW.take (T := fun _ => True) 2 (eptr ao (j * standE.sz)) rfl (by kernel_rfl) rfl (by kernel_rfl) (.inl fun _ => trivial) (by kernel_rfl) (Deaf.thens (Deaf.block (Deaf.thens (Deaf.thens (Deaf.block (Deaf.thens (Deaf.block (Deaf.thens (Deaf.block (Deaf.thens (Deaf.thens (Deaf.block (Deaf.thens (Deaf.body RetM.not_panicked)))))))))))))) (fun w_ _ => (q_indexAddr (i := j) (E := standE) (xs := rj) (e := 43) (c := co) (k := .i64) (m := rw.length) (by omega) rfl (by kernel_rfl) (by kernel_rfl) (by kernel_rfl) (o_row140.reads.mono (o_gone140.le.trans (G140.drew).own)) (by omega))) trivial ?_
           refine DW.take (T := fun _ => True) 3 (eptr ao (j * standE.sz + 2)) rfl (by kernel_rfl) rfl (by kernel_rfl) (.inl fun _ => trivial) (by kernel_rfl) (Deaf.thens (Deaf.block (Deaf.thens (Deaf.thens (Deaf.block (Deaf.thens (Deaf.block (Deaf.thens (Deaf.block (Deaf.thens (Deaf.thens (Deaf.block (Deaf.thens (Deaf.body RetM.not_panicked)))))))))))))) (fun w_ _ => (q_fieldAddr_e (i := j) (k := j * standE.sz) (off := 2) rfl (by kernel_rfl) (by kernel_rfl) (o_row140.reads.mono (o_gone140.le.trans (G140.drew).own)) (by omega))) trivial ?_
           refine DW.take (T := fun w_ => RS (PH.all w_) standE ao rj) 4 (.slice (((rj.getD j standE.dflt)).a) (((rj.getD j standE.dflt)).ws.length) (((rj.getD j standE.dflt)).c)) rfl (by kernel_rfl) rfl (by kernel_rfl) (.inr (by first | exact .head _ | exact .tail _ (.head _) | exact .tail _ (.tail _ (.head _)) | exact .tail _ (.tail _ (.tail _ (.head _))) | simp)) (by kernel_rfl) (Deaf.thens (Deaf.block (Deaf.thens (Deaf.thens (Deaf.block (Deaf.thens (Deaf.block (Deaf.thens (Deaf.block (Deaf.thens (Deaf.thens (Deaf.block (Deaf.thens (Deaf.body RetM.not_panicked)))))))))))))) (fun w_ T_ => (q_load_e (i := j) (k := 2) (E := standE) rfl (by kernel_rfl) (by kernel_rfl) T_ (by omega) (by decide) (by kernel_rfl))) (o_row140.reads.mono (o_gone140.le.trans (G140.drew).own)) ?_
           refine DW.take (T := fun _ => True) 5 (.pointer (some ⟨b9, 2, none⟩)) rfl (by kernel_rfl) rfl (by kernel_rfl) (.inl fun _ => trivial) (by kernel_rfl) (Deaf.thens (Deaf.block (Deaf.thens (Deaf.thens (Deaf.block (Deaf.thens (Deaf.block (Deaf.thens (Deaf.block (Deaf.thens (Deaf.thens (Deaf.block (Deaf.thens (Deaf.body RetM.not_panicked)))))))))))))) (fun w_ _ => (by kernel_rfl)) trivial ?_
           refine DW.take (T := fun w_ => PH.all w_ b9 = some (.cells #[(.int .i64 (((l.getD i actE.dflt)).op)), (.int .i64 (((l.getD i actE.dflt)).fact)), (.int .i64 ((((l.getD i actE.dflt)).w).rule)), (.int .i64 ((((l.getD i actE.dflt)).w).alt)), (.slice ((((l.getD i actE.dflt)).w).a) ((((l.getD i actE.dflt)).w).facts.length) ((((l.getD i actE.dflt)).w).c))] 40 (0, 0))) 6 (.agg #[(.int .i64 ((((l.getD i actE.dflt)).w).rule)), (.int .i64 ((((l.getD i actE.dflt)).w).alt)), (.slice ((((l.getD i actE.dflt)).w).a) ((((l.getD i actE.dflt)).w).facts.length) ((((l.getD i actE.dflt)).w).c))]) rfl (by kernel_rfl) rfl (by kernel_rfl) (.inr (by first | exact .head _ | exact .tail _ (.head _) | exact .tail _ (.tail _ (.head _)) | exact .tail _ (.tail _ (.tail _ (.head _))) | simp)) (by kernel_rfl) (Deaf.thens (Deaf.block (Deaf.thens (Deaf.thens (Deaf.block (Deaf.thens (Deaf.block (Deaf.thens (Deaf.block (Deaf.thens (Deaf.thens (Deaf.block (Deaf.thens (Deaf.body RetM.not_panicked)))))))))))))) (fun w_ T_ => (q_loadAgg (off := 2) (vs := [(.int .i64 ((((l.getD i actE.dflt)).w).rule)), (.int .i64 ((((l.getD i actE.dflt)).w).alt)), (.slice ((((l.getD i actE.dflt)).w).a) ((((l.getD i actE.dflt)).w).facts.length) ((((l.getD i actE.dflt)).w).c))]) rfl (by kernel_rfl) (by kernel_rfl) T_ (agg_at (by kernel_rfl)))) ((G140.drew).imm _ _ ((l21.trans l140) _ _ hb11)) ?_
           refine DW.only 7 (by kernel_rfl) ?_
           have hgw_ := hwj _ (getD_mem (d := standE.dflt) (show j < rj.length by omega))
           refine DOp.call rfl (by kernel_rfl) rfl (by kernel_rfl) (by kernel_rfl) (find_spec (l := (((rj.getD j standE.dflt)).ws)) (c := (((rj.getD j standE.dflt)).c)) (G140.drew) ((g_row140 (rj.getD j standE.dflt) (getD_mem (d := standE.dflt) (show j < rj.length from (by omega)))).1.mono (PH.le_refl _)) (g_row140 (rj.getD j standE.dflt) (getD_mem (d := standE.dflt) (show j < rj.length from (by omega)))).2.1 (by omega) (y := (((l.getD i actE.dflt)).w)) (show whyG h140 (((l.getD i actE.dflt)).w) from ⟨(Gl _ (getD_mem (d := actE.dflt) (show i < l.length by omega))).mono (((((l1.trans l5).trans l6).trans l11).trans l21).trans l140), by omega⟩)) (Ret.elimD (fun w143 h143 l143 G143 => ⟨.inl (by kernel_rfl), .inl (by kernel_rfl), trivial⟩) ?_)
           rintro w143 h143 _ l143 G143 rfl
           refine DW.take (T := fun _ => True) 8 (.int .i64 (idxF (fun x => sameW x (((l.getD i actE.dflt)).w)) (((rj.getD j standE.dflt)).ws))) rfl (by kernel_rfl) rfl (by kernel_rfl) (.inl fun _ => trivial) (by kernel_rfl) (Deaf.thens (Deaf.block (Deaf.thens (Deaf.thens (Deaf.block (Deaf.thens (Deaf.block (Deaf.thens (Deaf.block (Deaf.thens (Deaf.thens (Deaf.block (Deaf.thens (Deaf.body RetM.not_panicked)))))))))))))) (fun w_ _ => (by kernel_rfl)) trivial ?_
           refine DW.done (by kernel_rfl) ?_
           refine EX.then_code ?_
           refine CW.seq ?_
           refine CW.seq ?_
           refine CW.region ?_
           rcases idxF_cases (fun x => sameW x (((l.getD i actE.dflt)).w)) (((rj.getD j standE.dflt)).ws) whyE.dflt with ⟨ex, hnall⟩ | ⟨x0, hx0, ex, px0, _⟩
           ·
            skip
            have hgj : absS (rj.getD j standE.dflt) = (rw.map absS).getD j rowT0 := by rw [← abs_getS (by omega), hrj, cutJ_at (by simpa using (show j < rw.length by omega))]
            have hnw : datW (((l.getD i actE.dflt)).w) ∉ ((rw.map absS).getD j rowT0).2.2 := by rw [← hgj]; exact none_in hnall
            refine WL.know 10 (.int .i64 (-1)) (x := (.int .i64 (idxF (fun x => sameW x (((l.getD i actE.dflt)).w)) (((rj.getD j standE.dflt)).ws)))) (by kernel_rfl) (congrArg (Value.int .i64) ex) ?_
            refine WL.q (.int .i64 (-1)) (by kernel_rfl) rfl (by kernel_rfl) (by kernel_rfl) ?_
            refine WL.q (.bool true) (by kernel_rfl) rfl (by kernel_rfl) (by kernel_rfl) ?_
            refine WL.nil ?_
            refine EX.then_code ?_
            refine CW.cond_t (by kernel_rfl) (by kernel_rfl) ?_
            refine CW.exit ?_
            refine EX.exit_then ?_
            refine EX.exit_here ?_
            refine EX.then_code ?_
            refine CW.region ?_
            refine WL.q (.int .i64 (j : Int)) (by kernel_rfl) rfl (by kernel_rfl) (by kernel_rfl) ?_
            refine WL.q (.int .i64 ((j + 1 : Nat) : Int)) (by kernel_rfl) rfl (by kernel_rfl) (q_int (x := IntKind.i64.wrap ((j : Int) + 1)) (by kernel_rfl) (wrap_to (by omega) (by omega) (by omega))) ?_
            refine WL.q (.int .i64 ((j + 1 : Nat) : Int)) (by kernel_rfl) rfl (by kernel_rfl) (by kernel_rfl) ?_
            refine WL.nil ?_
            have hlv : lostd (datW (((l.getD i actE.dflt)).w)) ((rw.map absS).getD j rowT0) = false := by unfold lostd; rw [decide_eq_false hnw]; rfl
            exact EX.then_loop ⟨j + 1, rj, os, ag, cg⟩ ⟨(by kernel_rfl), (by kernel_rfl), (by kernel_rfl), (by kernel_rfl), (by kernel_rfl), (by kernel_rfl), (lk_int (x := ((j + 1 : Nat) : Int)) (by kernel_rfl) (by first | omega | (dsimp only; omega) | rfl | (dsimp only; rfl))), trivial⟩ ⟨h143, M0_140, M1_140, (l140.trans l143), G143, o_row140, o_gone140, (all_up @standG.mono l143 g_row140), (by first | omega | assumption | (dsimp only [List.length_nil, List.length_append, List.length_cons]; omega)), hjl, (hrj.trans (cutJ_skip (by simpa using (show j < rw.length by omega)) hnw).symm), (by rw [hos]; exact gone_skip (by simpa using (show j < rw.length by omega)) hlv), (by first | omega | (simp only [List.length_append, List.length_cons, List.length_nil]; omega))⟩ (by first | omega | (dsimp only; omega))
           ·
            skip
            have hgj : absS (rj.getD j standE.dflt) = (rw.map absS).getD j rowT0 := by rw [← abs_getS (by omega), hrj, cutJ_at (by simpa using (show j < rw.length by omega))]
            have hyw : datW (((l.getD i actE.dflt)).w) ∈ ((rw.map absS).getD j rowT0).2.2 := by rw [← hgj]; exact one_in hx0 px0
            have hcj : (rj.getD j standE.dflt).ws.length ≤ (rj.getD j standE.dflt).c := (g_row140 _ (getD_mem (d := standE.dflt) (show j < rj.length by omega))).2.2
            refine WL.know 10 (.int .i64 (x0 : Int)) (x := (.int .i64 (idxF (fun x => sameW x (((l.getD i actE.dflt)).w)) (((rj.getD j standE.dflt)).ws)))) (by kernel_rfl) (congrArg (Value.int .i64) ex) ?_
            refine WL.q (.int .i64 (x0 : Int)) (by kernel_rfl) rfl (by kernel_rfl) (by kernel_rfl) ?_
            refine WL.q (.bool (decide ((x0 : Int) < 0))) (by kernel_rfl) rfl (by kernel_rfl) (by kernel_rfl) ?_
            refine WL.know 139 (.bool false) (x := (.bool (decide ((x0 : Int) < 0)))) (by kernel_rfl) (congrArg Value.bool (decide_eq_false (by omega))) ?_
            refine WL.nil ?_
            refine EX.then_code ?_
            refine CW.cond_f (by kernel_rfl) (by kernel_rfl) ?_
            refine CW.skip ?_
            refine EX.then_code ?_
            refine CW.cut (β := List StandD) (fun x_ => [(0, (.slice a l.length c)), (3, (.pointer (some ⟨t, 0, none⟩))), (4, (.slice ao rw.length co)), (5, (.int .i64 (i : Int))), (6, (.pointer (some ⟨b9, 0, none⟩))), (8, (.slice ag os.length cg)), (9, (.int .i64 (j : Int)))]) (fun x_ w_ => ∃ h_ M0_ M1_, (PH.le h143 h_) ∧ (Wld K w_ h_ M1_) ∧ (Own 43 standE M0_6 M0_ ao co x_) ∧ (Own 3 intE M0_ M1_ ag cg os) ∧ (∀ e_ ∈ x_, standG h_ e_) ∧ (∃ a3 c3, x_ = rj.set j (StandD.mk (rj.getD j standE.dflt).fact (rj.getD j standE.dflt).free a3 (([] ++ (rj.getD j standE.dflt).ws.take x0) ++ (rj.getD j standE.dflt).ws.drop (x0 + 1)) c3))) ?_ ?_
            ·
             skip
             refine CW.draw (by kernel_rfl) [(7, fun w_ => RS (PH.all w_) standE ao rj), (15, fun w_ => RS (PH.all w_) standE ao rj)] ?_
             refine DW.take (T := fun _ => True) 0 (.slice ao rw.length co) rfl (by kernel_rfl) rfl (by kernel_rfl) (.inl fun _ => trivial) (by kernel_rfl) (Deaf.thens (Deaf.block (Deaf.thens (Deaf.thens (Deaf.block (Deaf.thens (Deaf.block (Deaf.thens (Deaf.block (Deaf.thens (Deaf.thens (Deaf.block (Deaf.thens (Deaf.body RetM.not_panicked)))))))))))))) (fun w_ _ => (by kernel_rfl)) trivial ?_
             refine DW.take (T := fun _ => True) 1 (.int .i64 (j : Int)) rfl (by kernel_rfl) rfl (by kernel_rfl) (.inl fun _ => trivial) (by kernel_rfl) (Deaf.thens (Deaf.block (Deaf.thens (Deaf.thens (Deaf.block (Deaf.thens (Deaf.block (Deaf.thens (Deaf.block (Deaf.thens (Deaf.thens (Deaf.block (Deaf.thens (Deaf.body RetM.not_panicked)))))))))))))) (fun w_ _ => (by kernel_rfl)) trivial ?_
             refine DW.take (T := fun _ => True) 3 (.slice ao rw.length co) rfl (by kernel_rfl) rfl (by kernel_rfl) (.inl fun _ => trivial) (by kernel_rfl) (Deaf.thens (Deaf.block (Deaf.thens (Deaf.thens (Deaf.block (Deaf.thens (Deaf.block (Deaf.thens (Deaf.block (Deaf.thens (Deaf.thens (Deaf.block (Deaf.thens (Deaf.body RetM.not_panicked)))))))))))))) (fun w_ _ => (by kernel_rfl)) trivial ?_
             refine DW.take (T := fun _ => True) 4 (.int .i64 (j : Int)) rfl (by kernel_rfl) rfl (by kernel_rfl) (.inl fun _ => trivial) (by kernel_rfl) (Deaf.thens (Deaf.block (Deaf.thens (Deaf.thens (Deaf.block (Deaf.thens (Deaf.block (Deaf.thens (Deaf.block (Deaf.thens (Deaf.thens (Deaf.block (Deaf.thens (Deaf.body RetM.not_panicked)))))))))))))) (fun w_ _ => (by kernel_rfl)) trivial ?_
             refine DW.take (T := fun _ => True) 5 (eptr ao (j * standE.sz)) rfl (by kernel_rfl) rfl (by kernel_rfl) (.inl fun _ => trivial) (by kernel_rfl) (Deaf.thens (Deaf.block (Deaf.thens (Deaf.thens (Deaf.block (Deaf.thens (Deaf.block (Deaf.thens (Deaf.block (Deaf.thens (Deaf.thens (Deaf.block (Deaf.thens (Deaf.body RetM.not_panicked)))))))))))))) (fun w_ _ => (q_indexAddr (i := j) (E := standE) (xs := rj) (e := 43) (c := co) (k := .i64) (m := rw.length) (by omega) rfl (by kernel_rfl) (by kernel_rfl) (by kernel_rfl) (o_row140.reads.mono (o_gone140.le.trans (G143.drew).own)) (by omega))) trivial ?_
             refine DW.take (T := fun _ => True) 6 (eptr ao (j * standE.sz + 2)) rfl (by kernel_rfl) rfl (by kernel_rfl) (.inl fun _ => trivial) (by kernel_rfl) (Deaf.thens (Deaf.block (Deaf.thens (Deaf.thens (Deaf.block (Deaf.thens (Deaf.block (Deaf.thens (Deaf.block (Deaf.thens (Deaf.thens (Deaf.block (Deaf.thens (Deaf.body RetM.not_panicked)))))))))))))) (fun w_ _ => (q_fieldAddr_e (i := j) (k := j * standE.sz) (off := 2) rfl (by kernel_rfl) (by kernel_rfl) (o_row140.reads.mono (o_gone140.le.trans (G143.drew).own)) (by omega))) trivial ?_
             refine DW.take (T := fun w_ => RS (PH.all w_) standE ao rj) 7 (.slice (((rj.getD j standE.dflt)).a) (((rj.getD j standE.dflt)).ws.length) (((rj.getD j standE.dflt)).c)) rfl (by kernel_rfl) rfl (by kernel_rfl) (.inr (by first | exact .head _ | exact .tail _ (.head _) | exact .tail _ (.tail _ (.head _)) | exact .tail _ (.tail _ (.tail _ (.head _))) | simp)) (by kernel_rfl) (Deaf.thens (Deaf.block (Deaf.thens (Deaf.thens (Deaf.block (Deaf.thens (Deaf.block (Deaf.thens (Deaf.block (Deaf.thens (Deaf.thens (Deaf.block (Deaf.thens (Deaf.body RetM.not_panicked)))))))))))))) (fun w_ T_ => (q_load_e (i := j) (k := 2) (E := standE) rfl (by kernel_rfl) (by kernel_rfl) T_ (by omega) (by decide) (by kernel_rfl))) (o_row140.reads.mono (o_gone140.le.trans (G143.drew).own)) ?_
             refine DW.take (T := fun _ => True) 8 (.int .i64 (x0 : Int)) rfl (by kernel_rfl) rfl (by kernel_rfl) (.inl fun _ => trivial) (by kernel_rfl) (Deaf.thens (Deaf.block (Deaf.thens (Deaf.thens (Deaf.block (Deaf.thens (Deaf.block (Deaf.thens (Deaf.block (Deaf.thens (Deaf.thens (Deaf.block (Deaf.thens (Deaf.body RetM.not_panicked)))))))))))))) (fun w_ _ => (by kernel_rfl)) trivial ?_
             refine DW.take (T := fun _ => True) 9 (.slice (((rj.getD j standE.dflt)).a) ((((((rj.getD j standE.dflt)).ws).take x0)).length) (((rj.getD j standE.dflt)).c)) rfl (by kernel_rfl) rfl (by kernel_rfl) (.inl fun _ => trivial) (by kernel_rfl) (Deaf.thens (Deaf.block (Deaf.thens (Deaf.thens (Deaf.block (Deaf.thens (Deaf.block (Deaf.thens (Deaf.block (Deaf.thens (Deaf.thens (Deaf.block (Deaf.thens (Deaf.body RetM.not_panicked)))))))))))))) (fun w_ _ => (q_val (q_upto (e := 28) (sz := 3) (len := (((rj.getD j standE.dflt)).ws.length)) (cap := (((rj.getD j standE.dflt)).c)) (k := .i64) rfl (by kernel_rfl) (by kernel_rfl) (by kernel_rfl) (Nat.le_trans (show x0 ≤ (((rj.getD j standE.dflt)).ws).length by omega) (by omega))) (by rw [List.length_take, Nat.min_eq_left (by omega)]))) trivial ?_
             refine DW.take (T := fun _ => True) 11 (.slice ao rw.length co) rfl (by kernel_rfl) rfl (by kernel_rfl) (.inl fun _ => trivial) (by kernel_rfl) (Deaf.thens (Deaf.block (Deaf.thens (Deaf.thens (Deaf.block (Deaf.thens (Deaf.block (Deaf.thens (Deaf.block (Deaf.thens (Deaf.thens (Deaf.block (Deaf.thens (Deaf.body RetM.not_panicked)))))))))))))) (fun w_ _ => (by kernel_rfl)) trivial ?_
             refine DW.take (T := fun _ => True) 12 (.int .i64 (j : Int)) rfl (by kernel_rfl) rfl (by kernel_rfl) (.inl fun _ => trivial) (by kernel_rfl) (Deaf.thens (Deaf.block (Deaf.thens (Deaf.thens (Deaf.block (Deaf.thens (Deaf.block (Deaf.thens (Deaf.block (Deaf.thens (Deaf.thens (Deaf.block (Deaf.thens (Deaf.body RetM.not_panicked)))))))))))))) (fun w_ _ => (by kernel_rfl)) trivial ?_
             refine DW.take (T := fun _ => True) 13 (eptr ao (j * standE.sz)) rfl (by kernel_rfl) rfl (by kernel_rfl) (.inl fun _ => trivial) (by kernel_rfl) (Deaf.thens (Deaf.block (Deaf.thens (Deaf.thens (Deaf.block (Deaf.thens (Deaf.block (Deaf.thens (Deaf.block (Deaf.thens (Deaf.thens (Deaf.block (Deaf.thens (Deaf.body RetM.not_panicked)))))))))))))) (fun w_ _ => (q_indexAddr (i := j) (E := standE) (xs := rj) (e := 43) (c := co) (k := .i64) (m := rw.length) (by omega) rfl (by kernel_rfl) (by kernel_rfl) (by kernel_rfl) (o_row140.reads.mono (o_gone140.le.trans (G143.drew).own)) (by omega))) trivial ?_
             refine DW.take (T := fun _ => True) 14 (eptr ao (j * standE.sz + 2)) rfl (by kernel_rfl) rfl (by kernel_rfl) (.inl fun _ => trivial) (by kernel_rfl) (Deaf.thens (Deaf.block (Deaf.thens (Deaf.thens (Deaf.block (Deaf.thens (Deaf.block (Deaf.thens (Deaf.block (Deaf.thens (Deaf.thens (Deaf.block (Deaf.thens (Deaf.body RetM.not_panicked)))))))))))))) (fun w_ _ => (q_fieldAddr_e (i := j) (k := j * standE.sz) (off := 2) rfl (by kernel_rfl) (by kernel_rfl) (o_row140.reads.mono (o_gone140.le.trans (G143.drew).own)) (by omega))) trivial ?_
             refine DW.take (T := fun w_ => RS (PH.all w_) standE ao rj) 15 (.slice (((rj.getD j standE.dflt)).a) (((rj.getD j standE.dflt)).ws.length) (((rj.getD j standE.dflt)).c)) rfl (by kernel_rfl) rfl (by kernel_rfl) (.inr (by first | exact .head _ | exact .tail _ (.head _) | exact .tail _ (.tail _ (.head _)) | exact .tail _ (.tail _ (.tail _ (.head _))) | simp)) (by kernel_rfl) (Deaf.thens (Deaf.block (Deaf.thens (Deaf.thens (Deaf.block (Deaf.thens (Deaf.block (Deaf.thens (Deaf.block (Deaf.thens (Deaf.thens (Deaf.block (Deaf.thens (Deaf.body RetM.not_panicked)))))))))))))) (fun w_ T_ => (q_load_e (i := j) (k := 2) (E := standE) rfl (by kernel_rfl) (by kernel_rfl) T_ (by omega) (by decide) (by kernel_rfl))) (o_row140.reads.mono (o_gone140.le.trans (G143.drew).own)) ?_
             refine DW.take (T := fun _ => True) 16 (.int .i64 (x0 : Int)) rfl (by kernel_rfl) rfl (by kernel_rfl) (.inl fun _ => trivial) (by kernel_rfl) (Deaf.thens (Deaf.block (Deaf.thens (Deaf.thens (Deaf.block (Deaf.thens (Deaf.block (Deaf.thens (Deaf.block (Deaf.thens (Deaf.thens (Deaf.block (Deaf.thens (Deaf.body RetM.not_panicked)))))))))))))) (fun w_ _ => (by kernel_rfl)) trivial ?_
             refine DW.take (T := fun _ => True) 17 (.int .i64 ((x0 + 1 : Nat) : Int)) rfl (by kernel_rfl) rfl (by kernel_rfl) (.inl fun _ => trivial) (by kernel_rfl) (Deaf.thens (Deaf.block (Deaf.thens (Deaf.thens (Deaf.block (Deaf.thens (Deaf.block (Deaf.thens (Deaf.block (Deaf.thens (Deaf.thens (Deaf.block (Deaf.thens (Deaf.body RetM.not_panicked)))))))))))))) (fun w_ _ => (q_int (x := IntKind.i64.wrap ((x0 : Int) + 1)) (by kernel_rfl) (wrap_to (by omega) (by omega) (by omega)))) trivial ?_
             refine DW.take (T := fun _ => True) 18 (.slice (aft (((rj.getD j standE.dflt)).a) (((rj.getD j standE.dflt)).c) (x0 + 1) 3) ((((((rj.getD j standE.dflt)).ws).drop (x0 + 1))).length) ((((rj.getD j standE.dflt)).c) - (x0 + 1))) rfl (by kernel_rfl) rfl (by kernel_rfl) (.inl fun _ => trivial) (by kernel_rfl) (Deaf.thens (Deaf.block (Deaf.thens (Deaf.thens (Deaf.block (Deaf.thens (Deaf.block (Deaf.thens (Deaf.block (Deaf.thens (Deaf.thens (Deaf.block (Deaf.thens (Deaf.body RetM.not_panicked)))))))))))))) (fun w_ _ => (q_val (q_from (e := 28) (sz := 3) (len := (((rj.getD j standE.dflt)).ws.length)) (cap := (((rj.getD j standE.dflt)).c)) (lo := (x0 + 1)) (k := .i64) rfl (by kernel_rfl) (by kernel_rfl) (by kernel_rfl) (show (x0 + 1) ≤ (((rj.getD j standE.dflt)).ws.length) by omega)) (by rw [List.length_drop]))) trivial ?_
             refine DW.only 2 (by kernel_rfl) ?_
             refine DOp.ex rfl (by kernel_rfl) rfl (by kernel_rfl) (q_newB (ob := (.cells #[] 28 (0, 0))) (G143.drew) (fun b_ => .slice (some ⟨b_, 0, none⟩) 0 0) (fun u_ => by kernel_rfl)) (fun v_ w144 p_ => by obtain ⟨b144, M144, rfl, G144, B144, L144⟩ := p_; exact ⟨.inr (fun _ => (o_row140.reads.mono ((o_gone140.le.trans B144.le).trans G144.own))), .inr (fun _ => (o_row140.reads.mono ((o_gone140.le.trans B144.le).trans G144.own))), trivial⟩) ?_
             rintro _ w144 ⟨b144, M144, rfl, G144, B144, L144⟩
             have o144 : Own 28 whyE M1_140 M144 (some ⟨b144, 0, none⟩) 0 ([] : List _) := Own.lit2 B144 (by kernel_rfl) (by kernel_rfl) (by decide)
             have g144 : ∀ e_ ∈ ([] : List _), whyG h143 e_ := all_nil
             refine DW.only 10 (by kernel_rfl) ?_
             refine DOp.ex rfl (by kernel_rfl) rfl (by kernel_rfl) (q_app (e := 28) (bytes := 40) (cap := 0) (c2 := (((rj.getD j standE.dflt)).c)) (M0 := M1_140) (xs := ([] : List _)) (ys := ((((rj.getD j standE.dflt)).ws).take x0)) G144 o144 (((g_row140 (rj.getD j standE.dflt) (getD_mem (d := standE.dflt) (show j < rj.length from (by omega)))).1.upto x0).mono (l143.trans G144.imm)) rfl (by kernel_rfl) (by kernel_rfl) (by kernel_rfl) (by first | (simp [maxLen]; omega) | (simp only [maxLen, List.length_append, List.length_cons, List.length_nil]; omega) | (simp only [maxLen, List.length_append, List.length_nil]; omega) | (simp only [maxLen, List.length_append, List.length_cons, List.length_nil, List.length_take, List.length_drop]; omega) | (simp only [maxLen]; omega)) (by first | omega | (simp; omega) | (simp only [List.length_append, List.length_cons, List.length_nil]; omega) | (simp only [List.length_append, List.length_cons, List.length_nil, List.length_take, List.length_drop]; omega))) (fun v_ w145 p_ => by obtain ⟨a145, k145, M145, rfl, G145, o145, z145⟩ := p_; exact ⟨.inr (fun _ => (o_row140.reads.mono ((o_gone140.le.trans o145.le).trans G145.own))), .inr (fun _ => (o_row140.reads.mono ((o_gone140.le.trans o145.le).trans G145.own))), trivial⟩) ?_
             rintro _ w145 ⟨a145, k145, M145, rfl, G145, o145, z145⟩
             have g145 : ∀ e_ ∈ ([] ++ ((((rj.getD j standE.dflt)).ws).take x0)), whyG h143 e_ := all_app g144 (all_up @whyG.mono l143 (all_take (g_row140 (rj.getD j standE.dflt) (getD_mem (d := standE.dflt) (show j < rj.length from (by omega)))).2.1))
             refine DW.only 19 (by kernel_rfl) ?_
             refine DOp.ex rfl (by kernel_rfl) rfl (by kernel_rfl) (q_app (e := 28) (bytes := 40) (cap := k145) (c2 := ((((rj.getD j standE.dflt)).c) - (x0 + 1))) (M0 := M1_140) (xs := ([] ++ ((((rj.getD j standE.dflt)).ws).take x0))) (ys := ((((rj.getD j standE.dflt)).ws).drop (x0 + 1))) G145 o145 (((g_row140 (rj.getD j standE.dflt) (getD_mem (d := standE.dflt) (show j < rj.length from (by omega)))).1.aft (cap := (((rj.getD j standE.dflt)).c)) (show (x0 + 1) ≤ (((rj.getD j standE.dflt)).ws).length by omega) (by omega)).mono (l143.trans G145.imm)) rfl (by kernel_rfl) (by kernel_rfl) (by kernel_rfl) (by first | (simp [maxLen]; omega) | (simp only [maxLen, List.length_append, List.length_cons, List.length_nil]; omega) | (simp only [maxLen, List.length_append, List.length_nil]; omega) | (simp only [maxLen, List.length_append, List.length_cons, List.length_nil, List.length_take, List.length_drop]; omega) | (simp only [maxLen]; omega)) (by first | omega | (simp; omega) | (simp only [List.length_append, List.length_cons, List.length_nil]; omega) | (simp only [List.length_append, List.length_cons, List.length_nil, List.length_take, List.length_drop]; omega))) (fun v_ w146 p_ => by obtain ⟨a146, k146, M146, rfl, G146, o146, z146⟩ := p_; exact ⟨.inr (fun _ => (o_row140.reads.mono ((o_gone140.le.trans o146.le).trans G146.own))), .inr (fun _ => (o_row140.reads.mono ((o_gone140.le.trans o146.le).trans G146.own))), trivial⟩) ?_
             rintro _ w146 ⟨a146, k146, M146, rfl, G146, o146, z146⟩
             have g146 : ∀ e_ ∈ (([] ++ ((((rj.getD j standE.dflt)).ws).take x0)) ++ ((((rj.getD j standE.dflt)).ws).drop (x0 + 1))), whyG h143 e_ := all_app g145 (all_up @whyG.mono l143 (all_drop (g_row140 (rj.getD j standE.dflt) (getD_mem (d := standE.dflt) (show j < rj.length from (by omega)))).2.1))
             refine DW.take (T := fun _ => True) 20 (eptr ao (j * standE.sz)) rfl (by kernel_rfl) rfl (by kernel_rfl) (.inl fun _ => trivial) (by kernel_rfl) (Deaf.thens (Deaf.block (Deaf.thens (Deaf.thens (Deaf.block (Deaf.thens (Deaf.block (Deaf.thens (Deaf.block (Deaf.thens (Deaf.thens (Deaf.block (Deaf.thens (Deaf.body RetM.not_panicked)))))))))))))) (fun w_ _ => (q_indexAddr (i := j) (E := standE) (xs := rj) (e := 43) (c := co) (k := .i64) (m := rw.length) (by omega) rfl (by kernel_rfl) (by kernel_rfl) (by kernel_rfl) (o_row140.reads.mono ((o_gone140.le.trans o146.le).trans G146.own)) (by omega))) trivial ?_
             refine DW.take (T := fun _ => True) 21 (eptr ao (j * standE.sz + 2)) rfl (by kernel_rfl) rfl (by kernel_rfl) (.inl fun _ => trivial) (by kernel_rfl) (Deaf.thens (Deaf.block (Deaf.thens (Deaf.thens (Deaf.block (Deaf.thens (Deaf.block (Deaf.thens (Deaf.block (Deaf.thens (Deaf.thens (Deaf.block (Deaf.thens (Deaf.body RetM.not_panicked)))))))))))))) (fun w_ _ => (q_fieldAddr_e (i := j) (k := j * standE.sz) (off := 2) rfl (by kernel_rfl) (by kernel_rfl) (o_row140.reads.mono ((o_gone140.le.trans o146.le).trans G146.own)) (by omega))) trivial ?_
             refine DW.only 22 (by kernel_rfl) ?_
             have hcap_ := o146.cap_le
             obtain ⟨h147, l147, G147, r147⟩ := o146.freeze G146
             obtain ⟨N148, s149, s150⟩ : ∃ N_, Own 3 intE M0_6 N_ ag cg os ∧ Own 43 standE N_ M1_140 ao co rj := Ly.swap (Ly.own (E := standE) 43 ao co rj) (Ly.own (E := intE) 3 ag cg os) o_row140 o_gone140
             have hcl_ : ((rj.getD j standE.dflt)).ws.length ≤ ((rj.getD j standE.dflt)).c := (g_row140 _ (getD_mem (d := standE.dflt) (show j < rj.length from (by omega)))).2.2
             refine DOp.exu rfl (by kernel_rfl) rfl (by kernel_rfl) (q_storeF (v := (.slice a146 ((([] ++ ((((rj.getD j standE.dflt)).ws).take x0)) ++ ((((rj.getD j standE.dflt)).ws).drop (x0 + 1))).length) k146)) (xs := rj) (i := j) 2 (StandD.mk (((rj.getD j standE.dflt)).fact) (((rj.getD j standE.dflt)).free) a146 (([] ++ ((((rj.getD j standE.dflt)).ws).take x0)) ++ ((((rj.getD j standE.dflt)).ws).drop (x0 + 1))) k146) G147 s150 (by omega) (by decide) rfl (by kernel_rfl) (by kernel_rfl) (by kernel_rfl) rfl rfl rfl) (fun w151 p_ => by obtain ⟨M151, G151, o151⟩ := p_; exact ⟨.inl (by kernel_rfl), .inl (by kernel_rfl), trivial⟩) ?_
             rintro w151 ⟨M151, G151, o151⟩
             have g151 := all_set (i := j) (all_up @standG.mono (l143.trans l147) g_row140) (show standG h147 (StandD.mk (((rj.getD j standE.dflt)).fact) (((rj.getD j standE.dflt)).free) a146 (([] ++ ((((rj.getD j standE.dflt)).ws).take x0)) ++ ((((rj.getD j standE.dflt)).ws).drop (x0 + 1))) k146) from ⟨(r147.mono (PH.le_refl _)), (all_up @whyG.mono l147 g146), (by first | omega | (dsimp only; first | omega | assumption) | simp)⟩)
             refine DW.done (by kernel_rfl) ?_
             obtain ⟨N152, s153, s154⟩ : ∃ N_, Own 43 standE M0_6 N_ ao co (rj.set j (StandD.mk (((rj.getD j standE.dflt)).fact) (((rj.getD j standE.dflt)).free) a146 (([] ++ ((((rj.getD j standE.dflt)).ws).take x0)) ++ ((((rj.getD j standE.dflt)).ws).drop (x0 + 1))) k146)) ∧ Own 3 intE N_ M151 ag cg os := Ly.swap (Ly.own (E := intE) 3 ag cg os) (Ly.own (E := standE) 43 ao co (rj.set j (StandD.mk (((rj.getD j standE.dflt)).fact) (((rj.getD j standE.dflt)).free) a146 (([] ++ ((((rj.getD j standE.dflt)).ws).take x0)) ++ ((((rj.getD j standE.dflt)).ws).drop (x0 + 1))) k146))) s149 o151
             exact EX.then_cut (rj.set j (StandD.mk (((rj.getD j standE.dflt)).fact) (((rj.getD j standE.dflt)).free) a146 (([] ++ ((((rj.getD j standE.dflt)).ws).take x0)) ++ ((((rj.getD j standE.dflt)).ws).drop (x0 + 1))) k146)) ⟨(by kernel_rfl), (by kernel_rfl), (by kernel_rfl), (by kernel_rfl), (by kernel_rfl), (by kernel_rfl), (by kernel_rfl), trivial⟩ ⟨h147, N152, M151, l147, G151, s153, s154, g151, (⟨_, _, rfl⟩)⟩
            ·
             skip
             rintro rk w155 ⟨h155, M0_155, M1_155, l155, G155, o_row155, o_gone155, g_row155, hrk⟩
             try dsimp only at *
             obtain ⟨a3, c3, hrk⟩ := hrk
             have hkl : rk.length = rw.length := by rw [hrk, List.length_set]; exact hjl
             have hke : rk.getD j standE.dflt = (StandD.mk (rj.getD j standE.dflt).fact (rj.getD j standE.dflt).free a3 (([] ++ (rj.getD j standE.dflt).ws.take x0) ++ (rj.getD j standE.dflt).ws.drop (x0 + 1)) c3) := by rw [hrk]; exact getD_setS (by omega) _
             have hka : absS (rk.getD j standE.dflt) = cutA (datW (((l.getD i actE.dflt)).w)) ((rw.map absS).getD j rowT0) := by rw [hke, ← hgj]; unfold absS cutA; simp only [Prod.mk.injEq, true_and]; exact (cut_in (hdj _ (getD_mem (by omega))) hx0 px0).symm
             have hrkm : rk.map absS = CutJ (rw.map absS) (datW (((l.getD i actE.dflt)).w)) (j + 1) := by rw [cutJ_succ (by simpa using (show j < rw.length by omega)), ← hka, ← hrj, hke, hrk, map_setS]
             have hkf : (rk.getD j standE.dflt).fact = ((rw.map absS).getD j rowT0).1 := congrArg (·.1) hka
             refine CW.seq ?_
             refine CW.region ?_
             refine WL.q (.slice ao rw.length co) (by kernel_rfl) rfl (by kernel_rfl) (by kernel_rfl) ?_
             refine WL.q (.int .i64 (j : Int)) (by kernel_rfl) rfl (by kernel_rfl) (by kernel_rfl) ?_
             refine WL.q (eptr ao (j * standE.sz)) (by kernel_rfl) rfl (by kernel_rfl) (q_indexAddr (i := j) (E := standE) (xs := rk) (e := 43) (c := co) (k := .i64) (m := rw.length) (by omega) rfl (by kernel_rfl) (by kernel_rfl) (by kernel_rfl) (o_row155.reads.mono (o_gone155.le.trans G155.own)) (by omega)) ?_
             refine WL.q (eptr ao (j * standE.sz + 1)) (by kernel_rfl) rfl (by kernel_rfl) (q_fieldAddr_e (i := j) (k := j * standE.sz) (off := 1) rfl (by kernel_rfl) (by kernel_rfl) (o_row155.reads.mono (o_gone155.le.trans G155.own)) (by omega)) ?_
             refine WL.q (.bool (((rk.getD j standE.dflt)).free)) (by kernel_rfl) rfl (by kernel_rfl) (q_load_e (i := j) (k := 1) (E := standE) rfl (by kernel_rfl) (by kernel_rfl) (o_row155.reads.mono (o_gone155.le.trans G155.own)) (by omega) (by decide) (by kernel_rfl)) ?_
             refine WL.q (.bool (!(((rk.getD j standE.dflt)).free))) (by kernel_rfl) rfl (by kernel_rfl) (by kernel_rfl) ?_
             refine WL.q (.bool (!(((rk.getD j standE.dflt)).free))) (by kernel_rfl) rfl (by kernel_rfl) (by kernel_rfl) ?_
             rcases bool_cases (!(((rk.getD j standE.dflt)).free)) with c156 | c156
             ·
              skip
              have d157 := not_true c156
              refine WL.know 168 (.bool true) (x := .bool (!(((rk.getD j standE.dflt)).free))) (by kernel_rfl) (congrArg Value.bool c156) ?_
              refine WL.q (.slice ao rw.length co) (by kernel_rfl) rfl (by kernel_rfl) (by kernel_rfl) ?_
              refine WL.q (.int .i64 (j : Int)) (by kernel_rfl) rfl (by kernel_rfl) (by kernel_rfl) ?_
              refine WL.q (eptr ao (j * standE.sz)) (by kernel_rfl) rfl (by kernel_rfl) (q_indexAddr (i := j) (E := standE) (xs := rk) (e := 43) (c := co) (k := .i64) (m := rw.length) (by omega) rfl (by kernel_rfl) (by kernel_rfl) (by kernel_rfl) (o_row155.reads.mono (o_gone155.le.trans G155.own)) (by omega)) ?_
              refine WL.q (eptr ao (j * standE.sz + 2)) (by kernel_rfl) rfl (by kernel_rfl) (q_fieldAddr_e (i := j) (k := j * standE.sz) (off := 2) rfl (by kernel_rfl) (by kernel_rfl) (o_row155.reads.mono (o_gone155.le.trans G155.own)) (by omega)) ?_
              refine WL.q (.slice (((rk.getD j standE.dflt)).a) (((rk.getD j standE.dflt)).ws.length) (((rk.getD j standE.dflt)).c)) (by kernel_rfl) rfl (by kernel_rfl) (q_load_e (i := j) (k := 2) (E := standE) rfl (by kernel_rfl) (by kernel_rfl) (o_row155.reads.mono (o_gone155.le.trans G155.own)) (by omega) (by decide) (by kernel_rfl)) ?_
              refine WL.q (.int .i64 (((rk.getD j standE.dflt)).ws.length : Int)) (by kernel_rfl) rfl (by kernel_rfl) (by kernel_rfl) ?_
              refine WL.q (.bool (((((rk.getD j standE.dflt)).ws.length : Int) : Int) == 0)) (by kernel_rfl) rfl (by kernel_rfl) (by kernel_rfl) ?_
              refine WL.q (.bool (((((rk.getD j standE.dflt)).ws.length : Int) : Int) == 0)) (by kernel_rfl) rfl (by kernel_rfl) (by kernel_rfl) ?_
              refine WL.nil ?_
              refine EX.then_code ?_
              refine CW.cond (((((rk.getD j standE.dflt)).ws.length : Int) : Int) == 0) (by kernel_rfl) (by kernel_rfl) (fun c159 => ?_) (fun c159 => ?_)
              ·
               skip
               have d160 := eq_of_beq c159
               refine CW.region ?_
               refine WL.q (.slice ag os.length cg) (by kernel_rfl) rfl (by kernel_rfl) (by kernel_rfl) ?_
               refine WL.q (.slice ao rw.length co) (by kernel_rfl) rfl (by kernel_rfl) (by kernel_rfl) ?_
               refine WL.q (.int .i64 (j : Int)) (by kernel_rfl) rfl (by kernel_rfl) (by kernel_rfl) ?_
               refine WL.q (eptr ao (j * standE.sz)) (by kernel_rfl) rfl (by kernel_rfl) (q_indexAddr (i := j) (E := standE) (xs := rk) (e := 43) (c := co) (k := .i64) (m := rw.length) (by omega) rfl (by kernel_rfl) (by kernel_rfl) (by kernel_rfl) (o_row155.reads.mono (o_gone155.le.trans G155.own)) (by omega)) ?_
               refine WL.q (eptr ao (j * standE.sz + 0)) (by kernel_rfl) rfl (by kernel_rfl) (q_fieldAddr_e (i := j) (k := j * standE.sz) (off := 0) rfl (by kernel_rfl) (by kernel_rfl) (o_row155.reads.mono (o_gone155.le.trans G155.own)) (by omega)) ?_
               refine WL.q (.int .i64 (((rk.getD j standE.dflt)).fact)) (by kernel_rfl) rfl (by kernel_rfl) (q_load_e (i := j) (k := 0) (E := standE) rfl (by kernel_rfl) (by kernel_rfl) (o_row155.reads.mono (o_gone155.le.trans G155.own)) (by omega) (by decide) (by kernel_rfl)) ?_
               refine WL.ex (by kernel_rfl) rfl (by kernel_rfl) (q_newF (ob := (.cells #[(.int .i64 (((rk.getD j standE.dflt)).fact))] 3 (0, 0))) G155 (fun b_ => .slice (some ⟨b_, 0, none⟩) 1 1) (fun u_ => by kernel_rfl)) ?_
               rintro _ w161 ⟨b161, h161, rfl, l161, G161, hb161, L161⟩
               have r162 : RS h161 intE (some ⟨b161, 0, none⟩) [((rk.getD j standE.dflt)).fact] := RS.blk hb161 (by kernel_rfl)
               refine WL.ex (by kernel_rfl) rfl (by kernel_rfl) (q_app (e := 3) (bytes := 8) (cap := cg) (c2 := 1) (M0 := M0_155) (xs := os) (ys := ([((rk.getD j standE.dflt)).fact])) G161 o_gone155 (r162.mono ((PH.le_refl _).trans G161.imm)) rfl (by kernel_rfl) (by kernel_rfl) (by kernel_rfl) (by first | (simp [maxLen]; omega) | (simp only [maxLen, List.length_append, List.length_cons, List.length_nil]; omega) | (simp only [maxLen, List.length_append, List.length_nil]; omega) | (simp only [maxLen, List.length_append, List.length_cons, List.length_nil, List.length_take, List.length_drop]; omega) | (simp only [maxLen]; omega)) (by first | omega | (simp; omega) | (simp only [List.length_append, List.length_cons, List.length_nil]; omega) | (simp only [List.length_append, List.length_cons, List.length_nil, List.length_take, List.length_drop]; omega))) ?_
               rintro _ w163 ⟨a163, k163, M163, rfl, G163, o163, z163⟩
               refine WL.q (.slice a163 ((os ++ ([((rk.getD j standE.dflt)).fact])).length) k163) (by kernel_rfl) rfl (by kernel_rfl) (by kernel_rfl) ?_
               refine WL.nil ?_
               refine EX.in_block ?_
               refine EX.then_code ?_
               refine CW.region ?_
               refine WL.q (.int .i64 (j : Int)) (by kernel_rfl) rfl (by kernel_rfl) (by kernel_rfl) ?_
               refine WL.q (.int .i64 ((j + 1 : Nat) : Int)) (by kernel_rfl) rfl (by kernel_rfl) (q_int (x := IntKind.i64.wrap ((j : Int) + 1)) (by kernel_rfl) (wrap_to (by omega) (by omega) (by omega))) ?_
               refine WL.q (.int .i64 ((j + 1 : Nat) : Int)) (by kernel_rfl) rfl (by kernel_rfl) (by kernel_rfl) ?_
               refine WL.nil ?_
               have hlv : lostd (datW (((l.getD i actE.dflt)).w)) ((rw.map absS).getD j rowT0) = true := by unfold lostd standsA; rw [decide_eq_true hyw, ← hka]; unfold absS; simp only [List.length_map]; first | (rw [show (rk.getD j standE.dflt).free = false from by assumption, decide_eq_false (by omega)]; rfl) | (rw [show (rk.getD j standE.dflt).free = true from by assumption]; rfl) | (rw [show (rk.getD j standE.dflt).free = false from by assumption, decide_eq_true (by omega)]; rfl)
               exact EX.then_loop ⟨j + 1, rk, (os ++ ([((rk.getD j standE.dflt)).fact])), a163, k163⟩ ⟨(by kernel_rfl), (by kernel_rfl), (by kernel_rfl), (by kernel_rfl), (by kernel_rfl), (by kernel_rfl), (lk_int (x := ((j + 1 : Nat) : Int)) (by kernel_rfl) (by first | omega | (dsimp only; omega) | rfl | (dsimp only; rfl))), trivial⟩ ⟨h161, M0_155, M163, (((l140.trans l143).trans l155).trans l161), G163, o_row155, o163, (all_up @standG.mono l161 g_row155), (by first | omega | assumption | (dsimp only [List.length_nil, List.length_append, List.length_cons]; omega)), hkl, hrkm, (by rw [hos, hkf]; exact gone_succ (by simpa using (show j < rw.length by omega)) hlv), (by first | omega | (simp only [List.length_append, List.length_cons, List.length_nil]; omega))⟩ (by first | omega | (dsimp only; omega))
              ·
               skip
               have d164 := ne_of_beq_false c159
               refine CW.skip ?_
               refine EX.in_block ?_
               refine EX.then_code ?_
               refine CW.region ?_
               refine WL.q (.int .i64 (j : Int)) (by kernel_rfl) rfl (by kernel_rfl) (by kernel_rfl) ?_
               refine WL.q (.int .i64 ((j + 1 : Nat) : Int)) (by kernel_rfl) rfl (by kernel_rfl) (q_int (x := IntKind.i64.wrap ((j : Int) + 1)) (by kernel_rfl) (wrap_to (by omega) (by omega) (by omega))) ?_
               refine WL.q (.int .i64 ((j + 1 : Nat) : Int)) (by kernel_rfl) rfl (by kernel_rfl) (by kernel_rfl) ?_
               refine WL.nil ?_
               have hlv : lostd (datW (((l.getD i actE.dflt)).w)) ((rw.map absS).getD j rowT0) = false := by unfold lostd standsA; rw [decide_eq_true hyw, ← hka]; unfold absS; simp only [List.length_map]; first | (rw [show (rk.getD j standE.dflt).free = false from by assumption, decide_eq_false (by omega)]; rfl) | (rw [show (rk.getD j standE.dflt).free = true from by assumption]; rfl) | (rw [show (rk.getD j standE.dflt).free = false from by assumption, decide_eq_true (by omega)]; rfl)
               exact EX.then_loop ⟨j + 1, rk, os, ag, cg⟩ ⟨(by kernel_rfl), (by kernel_rfl), (by kernel_rfl), (by kernel_rfl), (by kernel_rfl), (by kernel_rfl), (lk_int (x := ((j + 1 : Nat) : Int)) (by kernel_rfl) (by first | omega | (dsimp only; omega) | rfl | (dsimp only; rfl))), trivial⟩ ⟨h155, M0_155, M1_155, ((l140.trans l143).trans l155), G155, o_row155, o_gone155, g_row155, (by first | omega | assumption | (dsimp only [List.length_nil, List.length_append, List.length_cons]; omega)), hkl, hrkm, (by rw [hos]; exact gone_skip (by simpa using (show j < rw.length by omega)) hlv), (by first | omega | (simp only [List.length_append, List.length_cons, List.length_nil]; omega))⟩ (by first | omega | (dsimp only; omega))
             ·
              skip
              have d165 := not_false c156
              refine WL.know 168 (.bool false) (x := .bool (!(((rk.getD j standE.dflt)).free))) (by kernel_rfl) (congrArg Value.bool c156) ?_
              refine WL.skip (by kernel_rfl) rfl (by kernel_rfl) ?_
              refine WL.skip (by kernel_rfl) rfl (by kernel_rfl) ?_
              refine WL.skip (by kernel_rfl) rfl (by kernel_rfl) ?_
              refine WL.skip (by kernel_rfl) rfl (by kernel_rfl) ?_
              refine WL.skip (by kernel_rfl) rfl (by kernel_rfl) ?_
              refine WL.skip (by kernel_rfl) rfl (by kernel_rfl) ?_
              refine WL.skip (by kernel_rfl) rfl (by kernel_rfl) ?_
              refine WL.q (.bool false) (by kernel_rfl) rfl (by kernel_rfl) (by kernel_rfl) ?_
              refine WL.nil ?_
              refine EX.then_code ?_
              refine CW.cond_f (by kernel_rfl) (by kernel_rfl) ?_
              refine CW.skip ?_
              refine EX.in_block ?_
              refine EX.then_code ?_
              refine CW.region ?_
              refine WL.q (.int .i64 (j : Int)) (by kernel_rfl) rfl (by kernel_rfl) (by kernel_rfl) ?_
              refine WL.q (.int .i64 ((j + 1 : Nat) : Int)) (by kernel_rfl) rfl (by kernel_rfl) (q_int (x := IntKind.i64.wrap ((j : Int) + 1)) (by kernel_rfl) (wrap_to (by omega) (by omega) (by omega))) ?_
              refine WL.q (.int .i64 ((j + 1 : Nat) : Int)) (by kernel_rfl) rfl (by kernel_rfl) (by kernel_rfl) ?_
              refine WL.nil ?_
              have hlv : lostd (datW (((l.getD i actE.dflt)).w)) ((rw.map absS).getD j rowT0) = false := by unfold lostd standsA; rw [decide_eq_true hyw, ← hka]; unfold absS; simp only [List.length_map]; first | (rw [show (rk.getD j standE.dflt).free = false from by assumption, decide_eq_false (by omega)]; rfl) | (rw [show (rk.getD j standE.dflt).free = true from by assumption]; rfl) | (rw [show (rk.getD j standE.dflt).free = false from by assumption, decide_eq_true (by omega)]; rfl)
              exact EX.then_loop ⟨j + 1, rk, os, ag, cg⟩ ⟨(by kernel_rfl), (by kernel_rfl), (by kernel_rfl), (by kernel_rfl), (by kernel_rfl), (by kernel_rfl), (lk_int (x := ((j + 1 : Nat) : Int)) (by kernel_rfl) (by first | omega | (dsimp only; omega) | rfl | (dsimp only; rfl))), trivial⟩ ⟨h155, M0_155, M1_155, ((l140.trans l143).trans l155), G155, o_row155, o_gone155, g_row155, (by first | omega | assumption | (dsimp only [List.length_nil, List.length_append, List.length_cons]; omega)), hkl, hrkm, (by rw [hos]; exact gone_skip (by simpa using (show j < rw.length by omega)) hlv), (by first | omega | (simp only [List.length_append, List.length_cons, List.length_nil]; omega))⟩ (by first | omega | (dsimp only; omega))
          ·
           skip
           have d167 := of_decide_eq_false c141
           refine CW.exit ?_
           refine EX.exit_then ?_
           refine EX.exit_then ?_
           refine EX.exit_here ?_
           refine EX.then_code ?_
           refine CW.seq ?_
           refine CW.region ?_
           refine WL.q (.pointer (some ⟨t, 0, none⟩)) (by kernel_rfl) rfl (by kernel_rfl) (by kernel_rfl) ?_
           refine WL.q (.pointer (some ⟨b9, 2, none⟩)) (by kernel_rfl) rfl (by kernel_rfl) (by kernel_rfl) ?_
           refine WL.q (.agg #[(.int .i64 ((((l.getD i actE.dflt)).w).rule)), (.int .i64 ((((l.getD i actE.dflt)).w).alt)), (.slice ((((l.getD i actE.dflt)).w).a) ((((l.getD i actE.dflt)).w).facts.length) ((((l.getD i actE.dflt)).w).c))]) (by kernel_rfl) rfl (by kernel_rfl) (q_loadAgg (off := 2) (vs := [(.int .i64 ((((l.getD i actE.dflt)).w).rule)), (.int .i64 ((((l.getD i actE.dflt)).w).alt)), (.slice ((((l.getD i actE.dflt)).w).a) ((((l.getD i actE.dflt)).w).facts.length) ((((l.getD i actE.dflt)).w).c))]) rfl (by kernel_rfl) (by kernel_rfl) (G140.imm _ _ ((l21.trans l140) _ _ hb11)) (agg_at (by kernel_rfl))) ?_
           obtain ⟨N168, s169, s170⟩ : ∃ N_, Own 43 standE M N_ ao co rj ∧ TabA h6 t (rw.map absS) cm i N_ M0_140 := Ly.swap (lyTabA h6 t (rw.map absS) cm i) (Ly.own (E := standE) 43 ao co rj) o_tab6 o_row140
           obtain ⟨N171, s172, s173⟩ : ∃ N_, Own 3 intE N168 N_ ag cg os ∧ TabA h6 t (rw.map absS) cm i N_ M1_140 := Ly.swap (lyTabA h6 t (rw.map absS) cm i) (Ly.own (E := intE) 3 ag cg os) s170 o_gone140
           have hjj : j = rw.length := by omega
           have hnT : ((rw.map absS).map (·.1)).Nodup := (s173.ok).1
           refine WL.call (by kernel_rfl) rfl (by kernel_rfl) (by kernel_rfl) (loseA_spec G140 (TabA.mono ((l11.trans l21).trans l140) s173) (by omega) (y := (((l.getD i actE.dflt)).w)) (show whyG h140 (((l.getD i actE.dflt)).w) from ⟨(Gl _ (getD_mem (d := actE.dflt) (show i < l.length by omega))).mono (((((l1.trans l5).trans l6).trans l11).trans l21).trans l140), by omega⟩)) (RetM.elim ?_)
           rintro w174 h174 M174 _ l174 G174 ⟨a174, os174, rfl, r174, qo174, A174⟩
           have hoe : os174 = sortInts os := by rw [qo174, lost_sort hnT, hos, hjj]; congr 3; rw [show rw.length = (rw.map absS).length by simp, List.take_length]
           refine WL.q (.slice a174 os174.length os174.length) (by kernel_rfl) rfl (by kernel_rfl) (by kernel_rfl) ?_
           refine WL.nil ?_
           refine EX.then_code ?_
           refine CW.seq ?_
           refine CW.region ?_
           refine WL.q (.slice a174 os174.length os174.length) (by kernel_rfl) rfl (by kernel_rfl) (by kernel_rfl) ?_
           refine WL.q (.slice ag os.length cg) (by kernel_rfl) rfl (by kernel_rfl) (by kernel_rfl) ?_
           have hol2 : os.length ≤ 1000 := by omega
           obtain ⟨N175, s176, s177⟩ : ∃ N_, TabA h174 t ((rw.map absS).map (cutA (datW (((l.getD i actE.dflt)).w)))) (sweepA ((rw.map absS).map (cutA (datW (((l.getD i actE.dflt)).w)))) cm) i N168 N_ ∧ Own 3 intE N_ M174 ag cg os := Ly.swap (Ly.own (E := intE) 3 ag cg os) (lyTabA h174 t ((rw.map absS).map (cutA (datW (((l.getD i actE.dflt)).w)))) (sweepA ((rw.map absS).map (cutA (datW (((l.getD i actE.dflt)).w)))) cm) i) s172 A174
           obtain ⟨h178, l178, G178, r178⟩ := s177.freeze G174
           refine WL.call (by kernel_rfl) rfl (by kernel_rfl) (by kernel_rfl) (rising_spec (l := os) (c := cg) G178 (r178.mono (PH.le_refl _)) hol2) (Ret.elim ?_)
           rintro w179 h179 _ l179 G179 ⟨a179, c179, rfl, r179⟩
           refine WL.call (by kernel_rfl) rfl (by kernel_rfl) (by kernel_rfl) (cmpL_spec (xs := os174) (ys := (sortInts os)) (cx := os174.length) (cy := c179) G179 (r174.mono (l178.trans l179)) (r179.mono (PH.le_refl _)) (by rw [hoe, sortInts_len]; omega)) (Ret.elim ?_)
           rintro w180 h180 _ l180 G180 rfl
           refine WL.q (.bool (((cmpL os174 (sortInts os)) : Int) != 0)) (by kernel_rfl) rfl (by kernel_rfl) (by kernel_rfl) ?_
           refine WL.know 193 (.bool false) (x := (.bool (((cmpL os174 (sortInts os)) : Int) != 0))) (by kernel_rfl) (congrArg Value.bool (bne_eq_false_iff_eq.2 (by exact cmpL_zero.2 hoe))) ?_
           refine WL.nil ?_
           refine EX.then_code ?_
           refine CW.cond_f (by kernel_rfl) (by kernel_rfl) ?_
           refine CW.skip ?_
           refine EX.in_block ?_
           have hrs : rj.map absS = ((rw.map absS).map (cutA (datW (((l.getD i actE.dflt)).w)))) := by rw [hrj, hjj, show rw.length = (rw.map absS).length by simp, cutJ_end]
           have hokn : DsOk (rj.map absS) (sweepA ((rw.map absS).map (cutA (datW (((l.getD i actE.dflt)).w)))) cm) := DsOk.cast hrs.symm (hok.lose _)
           have Bt : TabA h180 t (rj.map absS) (sweepA ((rw.map absS).map (cutA (datW (((l.getD i actE.dflt)).w)))) cm) (i + 1) N168 N175 := TabA.cast hrs.symm rfl (TabA.up (by omega) (TabA.mono ((l178.trans l179).trans l180) s176))
           obtain ⟨N181, s182, s183⟩ : ∃ N_, TabA h180 t (rj.map absS) (sweepA ((rw.map absS).map (cutA (datW (((l.getD i actE.dflt)).w)))) cm) (i + 1) M N_ ∧ Own 43 standE N_ N175 ao co rj := Ly.swap (Ly.own (E := standE) 43 ao co rj) (lyTabA h180 t (rj.map absS) (sweepA ((rw.map absS).map (cutA (datW (((l.getD i actE.dflt)).w)))) cm) (i + 1)) s169 Bt
           exact EX.then_cut ⟨rj, ao, co, (sweepA ((rw.map absS).map (cutA (datW (((l.getD i actE.dflt)).w)))) cm)⟩ ⟨(by kernel_rfl), (by kernel_rfl), (lk_val (x := (.slice ao rw.length co)) (by kernel_rfl) (by rw [hjl])), (by kernel_rfl), trivial⟩ ⟨h180, N181, N175, ((((l140.trans l174).trans l178).trans l179).trans l180), G180, s182, s183, (all_up @standG.mono (((l174.trans l178).trans l179).trans l180) g_row140), hokn⟩
         ·
          skip
          have d184 := ne_of_beq_false c138
          refine CW.skip ?_
          refine EX.in_block ?_
          have hrs : rw.map absS = (rw.map absS) := rfl
          have hokn : DsOk (rw.map absS) cm := DsOk.cast hrs.symm (hok)
          have Bt : TabA h21 t (rw.map absS) cm (i + 1) M M0_6 := TabA.cast hrs.symm rfl (TabA.up (by omega) (TabA.mono (l11.trans l21) o_tab6))
          exact EX.then_cut ⟨rw, ao, co, cm⟩ ⟨(by kernel_rfl), (by kernel_rfl), (by kernel_rfl), (by kernel_rfl), trivial⟩ ⟨h21, M0_6, M1_6, (PH.le_refl _), G21, Bt, o_row6, (all_up @standG.mono (l11.trans l21) g_row6), hokn⟩
       ·
        skip
        rintro ⟨rw2, ao2, co2, cm2⟩ w185 ⟨h185, M0_185, M1_185, l185, G185, o_tab185, o_row185, g_row185, hok2⟩
        try dsimp only at *
        refine CW.seq ?_
        refine CW.region ?_
        refine WL.q (.pointer (some ⟨t, 0, none⟩)) (by kernel_rfl) rfl (by kernel_rfl) (by kernel_rfl) ?_
        refine WL.q (.slice ao2 rw2.length co2) (by kernel_rfl) rfl (by kernel_rfl) (by kernel_rfl) ?_
        refine WL.call (by kernel_rfl) rfl (by kernel_rfl) (by kernel_rfl) (tell_spec G185 o_tab185 o_row185.le (by omega) o_row185 (PH.le_refl _) g_row185 rfl hok2.1) (Ret.elim ?_)
        rintro w186 h186 _ l186 G186 rfl
        refine WL.q (.bool false) (by kernel_rfl) rfl (by kernel_rfl) (by kernel_rfl) ?_
        refine WL.nil ?_
        refine EX.then_code ?_
        refine CW.cond_f (by kernel_rfl) (by kernel_rfl) ?_
        refine CW.skip ?_
        refine EX.in_block ?_
        refine EX.then_code ?_
        refine CW.region ?_
        refine WL.q (.int .i64 (i : Int)) (by kernel_rfl) rfl (by kernel_rfl) (by kernel_rfl) ?_
        refine WL.q (.int .i64 ((i + 1 : Nat) : Int)) (by kernel_rfl) rfl (by kernel_rfl) (q_int (x := IntKind.i64.wrap ((i : Int) + 1)) (by kernel_rfl) (wrap_to (by omega) (by omega) (by omega))) ?_
        refine WL.q (.int .i64 ((i + 1 : Nat) : Int)) (by kernel_rfl) rfl (by kernel_rfl) (by kernel_rfl) ?_
        refine WL.nil ?_
        exact EX.then_loop ⟨i + 1, rw2, ao2, co2, cm2⟩ ⟨(by kernel_rfl), (by kernel_rfl), (by kernel_rfl), (lk_int (x := ((i + 1 : Nat) : Int)) (by kernel_rfl) (by first | omega | (dsimp only; omega) | rfl | (dsimp only; rfl))), trivial⟩ ⟨h186, M0_185, M1_185, ((((l6.trans l11).trans l21).trans l185).trans l186), G186, (TabA.mono l186 o_tab185), o_row185, (all_up @standG.mono l186 g_row185), (by first | omega | assumption | (dsimp only [List.length_nil, List.length_append, List.length_cons]; omega)), hok2⟩ (by first | omega | (dsimp only; omega))
    ·
     skip
     refine WL.know 7 (.int .i64 (k : Int)) (x := (.int .i64 (idxF (fun s => s.fact == ((l.getD i actE.dflt)).fact) rw))) (by kernel_rfl) (congrArg (Value.int .i64) ek) ?_
     have hof : OfA (rw.map absS) ((l.getD i actE.dflt)).fact (rw.map absS) k := of_row hk hfk
     have hkx := hk
     have hwx := hwl
     have hfx := hfk
     refine WL.q (.int .i64 (k : Int)) (by kernel_rfl) rfl (by kernel_rfl) (by kernel_rfl) ?_
     refine WL.q (.bool (decide ((k : Int) < 0))) (by kernel_rfl) rfl (by kernel_rfl) (by kernel_rfl) ?_
     refine WL.know 38 (.bool false) (x := (.bool (decide ((k : Int) < 0)))) (by kernel_rfl) (congrArg Value.bool (decide_eq_false (by omega))) ?_
     refine WL.q (.bool false) (by kernel_rfl) rfl (by kernel_rfl) (by kernel_rfl) ?_
     refine WL.skip (by kernel_rfl) rfl (by kernel_rfl) ?_
     refine WL.skip (by kernel_rfl) rfl (by kernel_rfl) ?_
     refine WL.skip (by kernel_rfl) rfl (by kernel_rfl) ?_
     refine WL.skip (by kernel_rfl) rfl (by kernel_rfl) ?_
     refine WL.skip (by kernel_rfl) rfl (by kernel_rfl) ?_
     refine WL.skip (by kernel_rfl) rfl (by kernel_rfl) ?_
     refine WL.skip (by kernel_rfl) rfl (by kernel_rfl) ?_
     refine WL.skip (by kernel_rfl) rfl (by kernel_rfl) ?_
     refine WL.q (.bool false) (by kernel_rfl) rfl (by kernel_rfl) (by kernel_rfl) ?_
     refine WL.nil ?_
     refine EX.then_code ?_
     refine CW.cond_f (by kernel_rfl) (by kernel_rfl) ?_
     refine CW.skip ?_
     refine EX.then_code ?_
     refine CW.cut (β := List StandD × Option Addr × Nat × List WD) (fun x_ => [(0, (.slice a l.length c)), (3, (.pointer (some ⟨t, 0, none⟩))), (4, (.slice x_.2.1 x_.1.length x_.2.2.1)), (5, (.int .i64 (i : Int)))]) (fun x_ w_ => ∃ h_ M0_ M1_, (PH.le h21 h_) ∧ (Wld K w_ h_ M1_) ∧ (TabA h_ t (x_.1.map absS) x_.2.2.2 (i + 1) M M0_) ∧ (Own 43 standE M0_ M1_ x_.2.1 x_.2.2.1 x_.1) ∧ (∀ e_ ∈ x_.1, standG h_ e_) ∧ (DsOk (x_.1.map absS) x_.2.2.2)) ?_ ?_
     ·
      skip
      refine CW.seq ?_
      refine CW.region ?_
      refine WL.q (.pointer (some ⟨b9, 0, none⟩)) (by kernel_rfl) rfl (by kernel_rfl) (by kernel_rfl) ?_
      refine WL.q (.int .i64 (((l.getD i actE.dflt)).op)) (by kernel_rfl) rfl (by kernel_rfl) (q_load (off := 0) rfl (by kernel_rfl) (by kernel_rfl) (G21.imm _ _ (l21 _ _ hb11)) (by kernel_rfl)) ?_
      refine WL.nil ?_
      refine EX.then_code ?_
      refine CW.block ?_
      refine CW.seq ?_
      refine CW.region ?_
      refine WL.q (.bool ((((l.getD i actE.dflt)).op : Int) == 1)) (by kernel_rfl) rfl (by kernel_rfl) (by kernel_rfl) ?_
      refine WL.q (.bool ((((l.getD i actE.dflt)).op : Int) == 1)) (by kernel_rfl) rfl (by kernel_rfl) (by kernel_rfl) ?_
      refine WL.nil ?_
      refine EX.then_code ?_
      refine CW.cond ((((l.getD i actE.dflt)).op : Int) == 1) (by kernel_rfl) (by kernel_rfl) (fun c187 => ?_) (fun c187 => ?_)
      ·
       skip
       have d188 := eq_of_beq c187
       refine CW.seq ?_
       refine CW.region ?_
       refine WL.q (.pointer (some ⟨t, 0, none⟩)) (by kernel_rfl) rfl (by kernel_rfl) (by kernel_rfl) ?_
       refine WL.q (.pointer (some ⟨b9, 1, none⟩)) (by kernel_rfl) rfl (by kernel_rfl) (by kernel_rfl) ?_
       refine WL.q (.int .i64 (((l.getD i actE.dflt)).fact)) (by kernel_rfl) rfl (by kernel_rfl) (q_load (off := 1) rfl (by kernel_rfl) (by kernel_rfl) (G21.imm _ _ (l21 _ _ hb11)) (by kernel_rfl)) ?_
       obtain ⟨N189, s190, s191⟩ : ∃ N_, Own 43 standE M N_ ao co rw ∧ TabA h6 t (rw.map absS) cm i N_ M1_6 := Ly.swap (lyTabA h6 t (rw.map absS) cm i) (Ly.own (E := standE) 43 ao co rw) o_tab6 o_row6
       refine WL.call (by kernel_rfl) rfl (by kernel_rfl) (by kernel_rfl) (freeA_spec G21 (TabA.mono (l11.trans l21) s191) ((l.getD i actE.dflt)).fact (hfl _ (getD_mem (d := actE.dflt) (show i < l.length by omega))).1 (by omega) hof) (RetM.elim ?_)
       rintro w192 h192 M192 _ l192 G192 ⟨rfl, A192⟩
       refine WL.nil ?_
       refine EX.then_code ?_
       refine CW.region ?_
       refine WL.q (.slice ao rw.length co) (by kernel_rfl) rfl (by kernel_rfl) (by kernel_rfl) ?_
       refine WL.q (.int .i64 (k : Int)) (by kernel_rfl) rfl (by kernel_rfl) (by kernel_rfl) ?_
       refine WL.q (eptr ao (k * standE.sz)) (by kernel_rfl) rfl (by kernel_rfl) (q_indexAddr (i := k) (E := standE) (xs := rw) (e := 43) (c := co) (k := .i64) (m := rw.length) rfl rfl (by kernel_rfl) (by kernel_rfl) (by kernel_rfl) (s190.reads.mono ((Ly.le (lyTabA h192 t (freeA (rw.map absS) k) cm (i + 1)) A192).trans G192.own)) (by omega)) ?_
       refine WL.q (eptr ao (k * standE.sz + 1)) (by kernel_rfl) rfl (by kernel_rfl) (q_fieldAddr_e (i := k) (k := k * standE.sz) (off := 1) rfl (by kernel_rfl) (by kernel_rfl) (s190.reads.mono ((Ly.le (lyTabA h192 t (freeA (rw.map absS) k) cm (i + 1)) A192).trans G192.own)) (by omega)) ?_
       obtain ⟨N193, s194, s195⟩ : ∃ N_, TabA h192 t (freeA (rw.map absS) k) cm (i + 1) M N_ ∧ Own 43 standE N_ M192 ao co rw := Ly.swap (Ly.own (E := standE) 43 ao co rw) (lyTabA h192 t (freeA (rw.map absS) k) cm (i + 1)) s190 A192
       have hcl_ : ((rw.getD k standE.dflt)).ws.length ≤ ((rw.getD k standE.dflt)).c := (g_row6 _ (getD_mem (d := standE.dflt) (show k < rw.length from (by omega)))).2.2
       refine WL.exu (by kernel_rfl) rfl (by kernel_rfl) (q_storeF (v := (.bool true)) (xs := rw) (i := k) 1 (StandD.mk (((rw.getD k standE.dflt)).fact) true (((rw.getD k standE.dflt)).a) (((rw.getD k standE.dflt)).ws) (((rw.getD k standE.dflt)).c)) G192 s195 (by omega) (by decide) rfl (by kernel_rfl) (by kernel_rfl) (by kernel_rfl) rfl rfl rfl) ?_
       rintro w196 ⟨M196, G196, o196⟩
       have g196 := all_set (i := k) (all_up @standG.mono ((l11.trans l21).trans l192) g_row6) (show standG h192 (StandD.mk (((rw.getD k standE.dflt)).fact) true (((rw.getD k standE.dflt)).a) (((rw.getD k standE.dflt)).ws) (((rw.getD k standE.dflt)).c)) from ⟨((g_row6 (rw.getD k standE.dflt) (getD_mem (d := standE.dflt) (show k < rw.length from (by omega)))).1.mono ((l11.trans l21).trans l192)), (all_up @whyG.mono ((l11.trans l21).trans l192) (g_row6 (rw.getD k standE.dflt) (getD_mem (d := standE.dflt) (show k < rw.length from (by omega)))).2.1), (by first | omega | (dsimp only; first | omega | assumption) | simp)⟩)
       refine WL.nil ?_
       refine EX.in_block ?_
       have hrs : (rw.set k (StandD.mk (((rw.getD k standE.dflt)).fact) true (((rw.getD k standE.dflt)).a) (((rw.getD k standE.dflt)).ws) (((rw.getD k standE.dflt)).c))).map absS = (freeA (rw.map absS) k) := free_row hkx rfl
       have hokn : DsOk ((rw.set k (StandD.mk (((rw.getD k standE.dflt)).fact) true (((rw.getD k standE.dflt)).a) (((rw.getD k standE.dflt)).ws) (((rw.getD k standE.dflt)).c))).map absS) cm := DsOk.cast hrs.symm ((hok.of hof).free hof.lt.1)
       have Bt : TabA h192 t ((rw.set k (StandD.mk (((rw.getD k standE.dflt)).fact) true (((rw.getD k standE.dflt)).a) (((rw.getD k standE.dflt)).ws) (((rw.getD k standE.dflt)).c))).map absS) cm (i + 1) M N193 := TabA.cast hrs.symm rfl (s194)
       exact EX.then_cut ⟨(rw.set k (StandD.mk (((rw.getD k standE.dflt)).fact) true (((rw.getD k standE.dflt)).a) (((rw.getD k standE.dflt)).ws) (((rw.getD k standE.dflt)).c))), ao, co, cm⟩ ⟨(by kernel_rfl), (by kernel_rfl), (lk_val (x := (.slice ao rw.length co)) (by kernel_rfl) (by rw [List.length_set])), (by kernel_rfl), trivial⟩ ⟨h192, N193, M196, l192, G196, Bt, o196, g196, hokn⟩
      ·
       skip
       have d197 := ne_of_beq_false c187
       refine CW.seq ?_
       refine CW.region ?_
       refine WL.q (.bool ((((l.getD i actE.dflt)).op : Int) == 2)) (by kernel_rfl) rfl (by kernel_rfl) (by kernel_rfl) ?_
       refine WL.q (.bool ((((l.getD i actE.dflt)).op : Int) == 2)) (by kernel_rfl) rfl (by kernel_rfl) (by kernel_rfl) ?_
       refine WL.nil ?_
       refine EX.then_code ?_
       refine CW.cond ((((l.getD i actE.dflt)).op : Int) == 2) (by kernel_rfl) (by kernel_rfl) (fun c198 => ?_) (fun c198 => ?_)
       ·
        skip
        have d199 := eq_of_beq c198
        refine CW.seq ?_
        refine CW.region ?_
        refine WL.q (.pointer (some ⟨t, 0, none⟩)) (by kernel_rfl) rfl (by kernel_rfl) (by kernel_rfl) ?_
        refine WL.q (.pointer (some ⟨b9, 1, none⟩)) (by kernel_rfl) rfl (by kernel_rfl) (by kernel_rfl) ?_
        refine WL.q (.int .i64 (((l.getD i actE.dflt)).fact)) (by kernel_rfl) rfl (by kernel_rfl) (q_load (off := 1) rfl (by kernel_rfl) (by kernel_rfl) (G21.imm _ _ (l21 _ _ hb11)) (by kernel_rfl)) ?_
        refine WL.q (.pointer (some ⟨b9, 2, none⟩)) (by kernel_rfl) rfl (by kernel_rfl) (by kernel_rfl) ?_
        refine WL.q (.agg #[(.int .i64 ((((l.getD i actE.dflt)).w).rule)), (.int .i64 ((((l.getD i actE.dflt)).w).alt)), (.slice ((((l.getD i actE.dflt)).w).a) ((((l.getD i actE.dflt)).w).facts.length) ((((l.getD i actE.dflt)).w).c))]) (by kernel_rfl) rfl (by kernel_rfl) (q_loadAgg (off := 2) (vs := [(.int .i64 ((((l.getD i actE.dflt)).w).rule)), (.int .i64 ((((l.getD i actE.dflt)).w).alt)), (.slice ((((l.getD i actE.dflt)).w).a) ((((l.getD i actE.dflt)).w).facts.length) ((((l.getD i actE.dflt)).w).c))]) rfl (by kernel_rfl) (by kernel_rfl) (G21.imm _ _ (l21 _ _ hb11)) (agg_at (by kernel_rfl))) ?_
        obtain ⟨N200, s201, s202⟩ : ∃ N_, Own 43 standE M N_ ao co rw ∧ TabA h6 t (rw.map absS) cm i N_ M1_6 := Ly.swap (lyTabA h6 t (rw.map absS) cm i) (Ly.own (E := standE) 43 ao co rw) o_tab6 o_row6
        refine WL.call (by kernel_rfl) rfl (by kernel_rfl) (by kernel_rfl) (supA_spec G21 (TabA.mono (l11.trans l21) s202) ((l.getD i actE.dflt)).fact (hfl _ (getD_mem (d := actE.dflt) (show i < l.length by omega))).1 (by omega) (y := (((l.getD i actE.dflt)).w)) (show whyG h21 (((l.getD i actE.dflt)).w) from ⟨(Gl _ (getD_mem (d := actE.dflt) (show i < l.length by omega))).mono ((((l1.trans l5).trans l6).trans l11).trans l21), by omega⟩) hof) (RetM.elim ?_)
        rintro w203 h203 M203 _ l203 G203 ⟨rfl, A203⟩
        refine WL.nil ?_
        refine EX.then_code ?_
        refine CW.seq ?_
        refine CW.draw (by kernel_rfl) [(4, fun w_ => RS (PH.all w_) standE ao rw), (6, fun w_ => PH.all w_ b9 = some (.cells #[(.int .i64 (((l.getD i actE.dflt)).op)), (.int .i64 (((l.getD i actE.dflt)).fact)), (.int .i64 ((((l.getD i actE.dflt)).w).rule)), (.int .i64 ((((l.getD i actE.dflt)).w).alt)), (.slice ((((l.getD i actE.dflt)).w).a) ((((l.getD i actE.dflt)).w).facts.length) ((((l.getD i actE.dflt)).w).c))] 40 (0, 0)))] ?_
        refine DW.take (T := fun _ => True) 0 (.slice ao rw.length co) rfl (by kernel_rfl) rfl (by kernel_rfl) (.inl fun _ => trivial) (by kernel_rfl) (Deaf.thens (Deaf.block (Deaf.thens (Deaf.block (Deaf.thens (Deaf.thens (Deaf.block (Deaf.thens (Deaf.body RetM.not_panicked))))))))) (fun w_ _ => (by kernel_rfl)) trivial ?_
        refine DW.take (T := fun _ => True) 1 (.int .i64 (k : Int)) rfl (by kernel_rfl) rfl (by kernel_rfl) (.inl fun _ => trivial) (by kernel_rfl) (Deaf.thens (Deaf.block (Deaf.thens (Deaf.block (Deaf.thens (Deaf.thens (Deaf.block (Deaf.thens (Deaf.body RetM.not_panicked))))))))) (fun w_ _ => (by kernel_rfl)) trivial ?_
        refine DW.take (T := fun _ => True) 2 (eptr ao (k * standE.sz)) rfl (by kernel_rfl) rfl (by kernel_rfl) (.inl fun _ => trivial) (by kernel_rfl) (Deaf.thens (Deaf.block (Deaf.thens (Deaf.block (Deaf.thens (Deaf.thens (Deaf.block (Deaf.thens (Deaf.body RetM.not_panicked))))))))) (fun w_ _ => (q_indexAddr (i := k) (E := standE) (xs := rw) (e := 43) (c := co) (k := .i64) (m := rw.length) rfl rfl (by kernel_rfl) (by kernel_rfl) (by kernel_rfl) (s201.reads.mono ((Ly.le (lyTabA h203 t (supA (rw.map absS) k (datW (((l.getD i actE.dflt)).w))) (supC (rw.map absS) k cm (datW (((l.getD i actE.dflt)).w))) (i + 1)) A203).trans (G203.drew).own)) (by omega))) trivial ?_
        refine DW.take (T := fun _ => True) 3 (eptr ao (k * standE.sz + 2)) rfl (by kernel_rfl) rfl (by kernel_rfl) (.inl fun _ => trivial) (by kernel_rfl) (Deaf.thens (Deaf.block (Deaf.thens (Deaf.block (Deaf.thens (Deaf.thens (Deaf.block (Deaf.thens (Deaf.body RetM.not_panicked))))))))) (fun w_ _ => (q_fieldAddr_e (i := k) (k := k * standE.sz) (off := 2) rfl (by kernel_rfl) (by kernel_rfl) (s201.reads.mono ((Ly.le (lyTabA h203 t (supA (rw.map absS) k (datW (((l.getD i actE.dflt)).w))) (supC (rw.map absS) k cm (datW (((l.getD i actE.dflt)).w))) (i + 1)) A203).trans (G203.drew).own)) (by omega))) trivial ?_
        refine DW.take (T := fun w_ => RS (PH.all w_) standE ao rw) 4 (.slice (((rw.getD k standE.dflt)).a) (((rw.getD k standE.dflt)).ws.length) (((rw.getD k standE.dflt)).c)) rfl (by kernel_rfl) rfl (by kernel_rfl) (.inr (by first | exact .head _ | exact .tail _ (.head _) | exact .tail _ (.tail _ (.head _)) | exact .tail _ (.tail _ (.tail _ (.head _))) | simp)) (by kernel_rfl) (Deaf.thens (Deaf.block (Deaf.thens (Deaf.block (Deaf.thens (Deaf.thens (Deaf.block (Deaf.thens (Deaf.body RetM.not_panicked))))))))) (fun w_ T_ => (q_load_e (i := k) (k := 2) (E := standE) rfl (by kernel_rfl) (by kernel_rfl) T_ (by omega) (by decide) (by kernel_rfl))) (s201.reads.mono ((Ly.le (lyTabA h203 t (supA (rw.map absS) k (datW (((l.getD i actE.dflt)).w))) (supC (rw.map absS) k cm (datW (((l.getD i actE.dflt)).w))) (i + 1)) A203).trans (G203.drew).own)) ?_
        refine DW.take (T := fun _ => True) 5 (.pointer (some ⟨b9, 2, none⟩)) rfl (by kernel_rfl) rfl (by kernel_rfl) (.inl fun _ => trivial) (by kernel_rfl) (Deaf.thens (Deaf.block (Deaf.thens (Deaf.block (Deaf.thens (Deaf.thens (Deaf.block (Deaf.thens (Deaf.body RetM.not_panicked))))))))) (fun w_ _ => (by kernel_rfl)) trivial ?_
        refine DW.take (T := fun w_ => PH.all w_ b9 = some (.cells #[(.int .i64 (((l.getD i actE.dflt)).op)), (.int .i64 (((l.getD i actE.dflt)).fact)), (.int .i64 ((((l.getD i actE.dflt)).w).rule)), (.int .i64 ((((l.getD i actE.dflt)).w).alt)), (.slice ((((l.getD i actE.dflt)).w).a) ((((l.getD i actE.dflt)).w).facts.length) ((((l.getD i actE.dflt)).w).c))] 40 (0, 0))) 6 (.agg #[(.int .i64 ((((l.getD i actE.dflt)).w).rule)), (.int .i64 ((((l.getD i actE.dflt)).w).alt)), (.slice ((((l.getD i actE.dflt)).w).a) ((((l.getD i actE.dflt)).w).facts.length) ((((l.getD i actE.dflt)).w).c))]) rfl (by kernel_rfl) rfl (by kernel_rfl) (.inr (by first | exact .head _ | exact .tail _ (.head _) | exact .tail _ (.tail _ (.head _)) | exact .tail _ (.tail _ (.tail _ (.head _))) | simp)) (by kernel_rfl) (Deaf.thens (Deaf.block (Deaf.thens (Deaf.block (Deaf.thens (Deaf.thens (Deaf.block (Deaf.thens (Deaf.body RetM.not_panicked))))))))) (fun w_ T_ => (q_loadAgg (off := 2) (vs := [(.int .i64 ((((l.getD i actE.dflt)).w).rule)), (.int .i64 ((((l.getD i actE.dflt)).w).alt)), (.slice ((((l.getD i actE.dflt)).w).a) ((((l.getD i actE.dflt)).w).facts.length) ((((l.getD i actE.dflt)).w).c))]) rfl (by kernel_rfl) (by kernel_rfl) T_ (agg_at (by kernel_rfl)))) ((G203.drew).imm _ _ ((l21.trans l203) _ _ hb11)) ?_
        refine DW.only 7 (by kernel_rfl) ?_
        have hgw_ := hwx _ (getD_mem (d := standE.dflt) hkx)
        refine DOp.call rfl (by kernel_rfl) rfl (by kernel_rfl) (by kernel_rfl) (find_spec (l := (((rw.getD k standE.dflt)).ws)) (c := (((rw.getD k standE.dflt)).c)) (G203.drew) ((g_row6 (rw.getD k standE.dflt) (getD_mem (d := standE.dflt) (show k < rw.length from (by omega)))).1.mono ((l11.trans l21).trans l203)) (all_up @whyG.mono ((l11.trans l21).trans l203) (g_row6 (rw.getD k standE.dflt) (getD_mem (d := standE.dflt) (show k < rw.length from (by omega)))).2.1) (by omega) (y := (((l.getD i actE.dflt)).w)) (show whyG h203 (((l.getD i actE.dflt)).w) from ⟨(Gl _ (getD_mem (d := actE.dflt) (show i < l.length by omega))).mono (((((l1.trans l5).trans l6).trans l11).trans l21).trans l203), by omega⟩)) (Ret.elimD (fun w204 h204 l204 G204 => ⟨.inl (by kernel_rfl), .inl (by kernel_rfl), trivial⟩) ?_)
        rintro w204 h204 _ l204 G204 rfl
        refine DW.take (T := fun _ => True) 8 (.bool (decide ((idxF (fun x => sameW x (((l.getD i actE.dflt)).w)) (((rw.getD k standE.dflt)).ws)) < 0))) rfl (by kernel_rfl) rfl (by kernel_rfl) (.inl fun _ => trivial) (by kernel_rfl) (Deaf.thens (Deaf.block (Deaf.thens (Deaf.block (Deaf.thens (Deaf.thens (Deaf.block (Deaf.thens (Deaf.body RetM.not_panicked))))))))) (fun w_ _ => (by kernel_rfl)) trivial ?_
        refine DW.done (by kernel_rfl) ?_
        refine EX.then_code ?_
        refine CW.cond (decide ((idxF (fun x => sameW x (((l.getD i actE.dflt)).w)) (((rw.getD k standE.dflt)).ws)) < 0)) (by kernel_rfl) (by kernel_rfl) (fun c205 => ?_) (fun c205 => ?_)
        ·
         skip
         have d206 := of_decide_eq_true c205
         refine CW.draw (by kernel_rfl) [(7, fun w_ => RS (PH.all w_) standE ao rw), (10, fun w_ => PH.all w_ b9 = some (.cells #[(.int .i64 (((l.getD i actE.dflt)).op)), (.int .i64 (((l.getD i actE.dflt)).fact)), (.int .i64 ((((l.getD i actE.dflt)).w).rule)), (.int .i64 ((((l.getD i actE.dflt)).w).alt)), (.slice ((((l.getD i actE.dflt)).w).a) ((((l.getD i actE.dflt)).w).facts.length) ((((l.getD i actE.dflt)).w).c))] 40 (0, 0)))] ?_
         refine DW.take (T := fun _ => True) 0 (.slice ao rw.length co) rfl (by kernel_rfl) rfl (by kernel_rfl) (.inl fun _ => trivial) (by kernel_rfl) (Deaf.block (Deaf.thens (Deaf.block (Deaf.thens (Deaf.thens (Deaf.block (Deaf.thens (Deaf.body RetM.not_panicked)))))))) (fun w_ _ => (by kernel_rfl)) trivial ?_
         refine DW.take (T := fun _ => True) 1 (.int .i64 (k : Int)) rfl (by kernel_rfl) rfl (by kernel_rfl) (.inl fun _ => trivial) (by kernel_rfl) (Deaf.block (Deaf.thens (Deaf.block (Deaf.thens (Deaf.thens (Deaf.block (Deaf.thens (Deaf.body RetM.not_panicked)))))))) (fun w_ _ => (by kernel_rfl)) trivial ?_
         refine DW.take (T := fun _ => True) 3 (.slice ao rw.length co) rfl (by kernel_rfl) rfl (by kernel_rfl) (.inl fun _ => trivial) (by kernel_rfl) (Deaf.block (Deaf.thens (Deaf.block (Deaf.thens (Deaf.thens (Deaf.block (Deaf.thens (Deaf.body RetM.not_panicked)))))))) (fun w_ _ => (by kernel_rfl)) trivial ?_
         refine DW.take (T := fun _ => True) 4 (.int .i64 (k : Int)) rfl (by kernel_rfl) rfl (by kernel_rfl) (.inl fun _ => trivial) (by kernel_rfl) (Deaf.block (Deaf.thens (Deaf.block (Deaf.thens (Deaf.thens (Deaf.block (Deaf.thens (Deaf.body RetM.not_panicked)))))))) (fun w_ _ => (by kernel_rfl)) trivial ?_
         refine DW.take (T := fun _ => True) 5 (eptr ao (k * standE.sz)) rfl (by kernel_rfl) rfl (by kernel_rfl) (.inl fun _ => trivial) (by kernel_rfl) (Deaf.block (Deaf.thens (Deaf.block (Deaf.thens (Deaf.thens (Deaf.block (Deaf.thens (Deaf.body RetM.not_panicked)))))))) (fun w_ _ => (q_indexAddr (i := k) (E := standE) (xs := rw) (e := 43) (c := co) (k := .i64) (m := rw.length) rfl rfl (by kernel_rfl) (by kernel_rfl) (by kernel_rfl) (s201.reads.mono ((Ly.le (lyTabA h203 t (supA (rw.map absS) k (datW (((l.getD i actE.dflt)).w))) (supC (rw.map absS) k cm (datW (((l.getD i actE.dflt)).w))) (i + 1)) A203).trans (G204.drew).own)) (by omega))) trivial ?_
         refine DW.take (T := fun _ => True) 6 (eptr ao (k * standE.sz + 2)) rfl (by kernel_rfl) rfl (by kernel_rfl) (.inl fun _ => trivial) (by kernel_rfl) (Deaf.block (Deaf.thens (Deaf.block (Deaf.thens (Deaf.thens (Deaf.block (Deaf.thens (Deaf.body RetM.not_panicked)))))))) (fun w_ _ => (q_fieldAddr_e (i := k) (k := k * standE.sz) (off := 2) rfl (by kernel_rfl) (by kernel_rfl) (s201.reads.mono ((Ly.le (lyTabA h203 t (supA (rw.map absS) k (datW (((l.getD i actE.dflt)).w))) (supC (rw.map absS) k cm (datW (((l.getD i actE.dflt)).w))) (i + 1)) A203).trans (G204.drew).own)) (by omega))) trivial ?_
         refine DW.take (T := fun w_ => RS (PH.all w_) standE ao rw) 7 (.slice (((rw.getD k standE.dflt)).a) (((rw.getD k standE.dflt)).ws.length) (((rw.getD k standE.dflt)).c)) rfl (by kernel_rfl) rfl (by kernel_rfl) (.inr (by first | exact .head _ | exact .tail _ (.head _) | exact .tail _ (.tail _ (.head _)) | exact .tail _ (.tail _ (.tail _ (.head _))) | simp)) (by kernel_rfl) (Deaf.block (Deaf.thens (Deaf.block (Deaf.thens (Deaf.thens (Deaf.block (Deaf.thens (Deaf.body RetM.not_panicked)))))))) (fun w_ T_ => (q_load_e (i := k) (k := 2) (E := standE) rfl (by kernel_rfl) (by kernel_rfl) T_ (by omega) (by decide) (by kernel_rfl))) (s201.reads.mono ((Ly.le (lyTabA h203 t (supA (rw.map absS) k (datW (((l.getD i actE.dflt)).w))) (supC (rw.map absS) k cm (datW (((l.getD i actE.dflt)).w))) (i + 1)) A203).trans (G204.drew).own)) ?_
         refine DW.take (T := fun _ => True) 9 (.pointer (some ⟨b9, 2, none⟩)) rfl (by kernel_rfl) rfl (by kernel_rfl) (.inl fun _ => trivial) (by kernel_rfl) (Deaf.block (Deaf.thens (Deaf.block (Deaf.thens (Deaf.thens (Deaf.block (Deaf.thens (Deaf.body RetM.not_panicked)))))))) (fun w_ _ => (by kernel_rfl)) trivial ?_
         refine DW.take (T := fun w_ => PH.all w_ b9 = some (.cells #[(.int .i64 (((l.getD i actE.dflt)).op)), (.int .i64 (((l.getD i actE.dflt)).fact)), (.int .i64 ((((l.getD i actE.dflt)).w).rule)), (.int .i64 ((((l.getD i actE.dflt)).w).alt)), (.slice ((((l.getD i actE.dflt)).w).a) ((((l.getD i actE.dflt)).w).facts.length) ((((l.getD i actE.dflt)).w).c))] 40 (0, 0))) 10 (.agg #[(.int .i64 ((((l.getD i actE.dflt)).w).rule)), (.int .i64 ((((l.getD i actE.dflt)).w).alt)), (.slice ((((l.getD i actE.dflt)).w).a) ((((l.getD i actE.dflt)).w).facts.length) ((((l.getD i actE.dflt)).w).c))]) rfl (by kernel_rfl) rfl (by kernel_rfl) (.inr (by first | exact .head _ | exact .tail _ (.head _) | exact .tail _ (.tail _ (.head _)) | exact .tail _ (.tail _ (.tail _ (.head _))) | simp)) (by kernel_rfl) (Deaf.block (Deaf.thens (Deaf.block (Deaf.thens (Deaf.thens (Deaf.block (Deaf.thens (Deaf.body RetM.not_panicked)))))))) (fun w_ T_ => (q_loadAgg (off := 2) (vs := [(.int .i64 ((((l.getD i actE.dflt)).w).rule)), (.int .i64 ((((l.getD i actE.dflt)).w).alt)), (.slice ((((l.getD i actE.dflt)).w).a) ((((l.getD i actE.dflt)).w).facts.length) ((((l.getD i actE.dflt)).w).c))]) rfl (by kernel_rfl) (by kernel_rfl) T_ (agg_at (by kernel_rfl)))) ((G204.drew).imm _ _ (((l21.trans l203).trans l204) _ _ hb11)) ?_
         refine DW.two 2 11 (by kernel_rfl) ?_ ?_
         ·
          skip
          refine DOp.ex rfl (by kernel_rfl) rfl (by kernel_rfl) (q_newB (ob := (.cells #[] 28 (0, 0))) (G204.drew) (fun b_ => .slice (some ⟨b_, 0, none⟩) 0 0) (fun u_ => by kernel_rfl)) (fun v_ w207 p_ => by obtain ⟨b207, M207, rfl, G207, B207, L207⟩ := p_; exact ⟨.inr (fun _ => (s201.reads.mono (((Ly.le (lyTabA h203 t (supA (rw.map absS) k (datW (((l.getD i actE.dflt)).w))) (supC (rw.map absS) k cm (datW (((l.getD i actE.dflt)).w))) (i + 1)) A203).trans B207.le).trans G207.own))), .inr (fun _ => (G207.imm _ _ (((l21.trans l203).trans l204) _ _ hb11))), trivial⟩) ?_
          rintro _ w207 ⟨b207, M207, rfl, G207, B207, L207⟩
          have o207 : Own 28 whyE M203 M207 (some ⟨b207, 0, none⟩) 0 ([] : List _) := Own.lit2 B207 (by kernel_rfl) (by kernel_rfl) (by decide)
          have g207 : ∀ e_ ∈ ([] : List _), whyG h204 e_ := all_nil
          refine DW.two 8 11 (by kernel_rfl) ?_ ?_
          ·
           skip
           refine DOp.ex rfl (by kernel_rfl) rfl (by kernel_rfl) (q_app (e := 28) (bytes := 40) (cap := 0) (c2 := (((rw.getD k standE.dflt)).c)) (M0 := M203) (xs := ([] : List _)) (ys := (((rw.getD k standE.dflt)).ws)) G207 o207 ((g_row6 (rw.getD k standE.dflt) (getD_mem (d := standE.dflt) (show k < rw.length from (by omega)))).1.mono ((((l11.trans l21).trans l203).trans l204).trans G207.imm)) rfl (by kernel_rfl) (by kernel_rfl) (by kernel_rfl) (by first | (simp [maxLen]; omega) | (simp only [maxLen, List.length_append, List.length_cons, List.length_nil]; omega) | (simp only [maxLen, List.length_append, List.length_nil]; omega) | (simp only [maxLen, List.length_append, List.length_cons, List.length_nil, List.length_take, List.length_drop]; omega) | (simp only [maxLen]; omega)) (by first | omega | (simp; omega) | (simp only [List.length_append, List.length_cons, List.length_nil]; omega) | (simp only [List.length_append, List.length_cons, List.length_nil, List.length_take, List.length_drop]; omega))) (fun v_ w208 p_ => by obtain ⟨a208, k208, M208, rfl, G208, o208, z208⟩ := p_; exact ⟨.inl (by kernel_rfl), .inr (fun _ => (G208.imm _ _ (((l21.trans l203).trans l204) _ _ hb11))), trivial⟩) ?_
           rintro _ w208 ⟨a208, k208, M208, rfl, G208, o208, z208⟩
           have g208 : ∀ e_ ∈ ([] ++ (((rw.getD k standE.dflt)).ws)), whyG h204 e_ := all_app g207 (all_up @whyG.mono (((l11.trans l21).trans l203).trans l204) (g_row6 (rw.getD k standE.dflt) (getD_mem (d := standE.dflt) (show k < rw.length from (by omega)))).2.1)
           refine DW.only 11 (by kernel_rfl) ?_
           refine DOp.ex rfl (by kernel_rfl) rfl (by kernel_rfl) (q_newF (ob := (.cells #[(.int .i64 ((((l.getD i actE.dflt)).w).rule)), (.int .i64 ((((l.getD i actE.dflt)).w).alt)), (.slice ((((l.getD i actE.dflt)).w).a) ((((l.getD i actE.dflt)).w).facts.length) ((((l.getD i actE.dflt)).w).c))] 28 (0, 0))) G208 (fun b_ => .slice (some ⟨b_, 0, none⟩) 1 1) (fun u_ => by kernel_rfl)) (fun v_ w209 p_ => by obtain ⟨b209, h209, rfl, l209, G209, hb209, L209⟩ := p_; exact ⟨.inr (fun _ => (s201.reads.mono (((Ly.le (lyTabA h203 t (supA (rw.map absS) k (datW (((l.getD i actE.dflt)).w))) (supC (rw.map absS) k cm (datW (((l.getD i actE.dflt)).w))) (i + 1)) A203).trans o208.le).trans G209.own))), .inl (by kernel_rfl), trivial⟩) ?_
           rintro _ w209 ⟨b209, h209, rfl, l209, G209, hb209, L209⟩
           have r210 : RS h209 whyE (some ⟨b209, 0, none⟩) [(((l.getD i actE.dflt)).w)] := RS.blk hb209 (by kernel_rfl)
           have g210 : ∀ e_ ∈ [(((l.getD i actE.dflt)).w)], whyG h209 e_ := (all_one (show whyG h209 (((l.getD i actE.dflt)).w) from ⟨((Gl (l.getD i actE.dflt) (getD_mem (d := actE.dflt) (show i < l.length from (by omega)))).mono (((((((l1.trans l5).trans l6).trans l11).trans l21).trans l203).trans l204).trans l209)), by omega⟩))
           refine DW.only 12 (by kernel_rfl) ?_
           refine DOp.ex rfl (by kernel_rfl) rfl (by kernel_rfl) (q_app (e := 28) (bytes := 40) (cap := k208) (c2 := 1) (M0 := M203) (xs := ([] ++ (((rw.getD k standE.dflt)).ws))) (ys := ([(((l.getD i actE.dflt)).w)])) G209 o208 (r210.mono ((PH.le_refl _).trans G209.imm)) rfl (by kernel_rfl) (by kernel_rfl) (by kernel_rfl) (by first | (simp [maxLen]; omega) | (simp only [maxLen, List.length_append, List.length_cons, List.length_nil]; omega) | (simp only [maxLen, List.length_append, List.length_nil]; omega) | (simp only [maxLen, List.length_append, List.length_cons, List.length_nil, List.length_take, List.length_drop]; omega) | (simp only [maxLen]; omega)) (by first | omega | (simp; omega) | (simp only [List.length_append, List.length_cons, List.length_nil]; omega) | (simp only [List.length_append, List.length_cons, List.length_nil, List.length_take, List.length_drop]; omega))) (fun v_ w211 p_ => by obtain ⟨a211, k211, M211, rfl, G211, o211, z211⟩ := p_; exact ⟨.inr (fun _ => (s201.reads.mono (((Ly.le (lyTabA h203 t (supA (rw.map absS) k (datW (((l.getD i actE.dflt)).w))) (supC (rw.map absS) k cm (datW (((l.getD i actE.dflt)).w))) (i + 1)) A203).trans o211.le).trans G211.own))), .inr (fun _ => (G211.imm _ _ ((((l21.trans l203).trans l204).trans l209) _ _ hb11))), trivial⟩) ?_
           rintro _ w211 ⟨a211, k211, M211, rfl, G211, o211, z211⟩
           have g211 : ∀ e_ ∈ (([] ++ (((rw.getD k standE.dflt)).ws)) ++ ([(((l.getD i actE.dflt)).w)])), whyG h209 e_ := all_app (all_up @whyG.mono l209 g208) g210
           refine DW.take (T := fun _ => True) 13 (eptr ao (k * standE.sz)) rfl (by kernel_rfl) rfl (by kernel_rfl) (.inl fun _ => trivial) (by kernel_rfl) (Deaf.block (Deaf.thens (Deaf.block (Deaf.thens (Deaf.thens (Deaf.block (Deaf.thens (Deaf.body RetM.not_panicked)))))))) (fun w_ _ => (q_indexAddr (i := k) (E := standE) (xs := rw) (e := 43) (c := co) (k := .i64) (m := rw.length) rfl rfl (by kernel_rfl) (by kernel_rfl) (by kernel_rfl) (s201.reads.mono (((Ly.le (lyTabA h203 t (supA (rw.map absS) k (datW (((l.getD i actE.dflt)).w))) (supC (rw.map absS) k cm (datW (((l.getD i actE.dflt)).w))) (i + 1)) A203).trans o211.le).trans G211.own)) (by omega))) trivial ?_
           refine DW.take (T := fun _ => True) 14 (eptr ao (k * standE.sz + 2)) rfl (by kernel_rfl) rfl (by kernel_rfl) (.inl fun _ => trivial) (by kernel_rfl) (Deaf.block (Deaf.thens (Deaf.block (Deaf.thens (Deaf.thens (Deaf.block (Deaf.thens (Deaf.body RetM.not_panicked)))))))) (fun w_ _ => (q_fieldAddr_e (i := k) (k := k * standE.sz) (off := 2) rfl (by kernel_rfl) (by kernel_rfl) (s201.reads.mono (((Ly.le (lyTabA h203 t (supA (rw.map absS) k (datW (((l.getD i actE.dflt)).w))) (supC (rw.map absS) k cm (datW (((l.getD i actE.dflt)).w))) (i + 1)) A203).trans o211.le).trans G211.own)) (by omega))) trivial ?_
           refine DW.only 15 (by kernel_rfl) ?_
           have hcap_ := o211.cap_le
           obtain ⟨h212, l212, G212, r212⟩ := o211.freeze G211
           obtain ⟨N213, s214, s215⟩ : ∃ N_, TabA h203 t (supA (rw.map absS) k (datW (((l.getD i actE.dflt)).w))) (supC (rw.map absS) k cm (datW (((l.getD i actE.dflt)).w))) (i + 1) M N_ ∧ Own 43 standE N_ M203 ao co rw := Ly.swap (Ly.own (E := standE) 43 ao co rw) (lyTabA h203 t (supA (rw.map absS) k (datW (((l.getD i actE.dflt)).w))) (supC (rw.map absS) k cm (datW (((l.getD i actE.dflt)).w))) (i + 1)) s201 A203
           have hcl_ : ((rw.getD k standE.dflt)).ws.length ≤ ((rw.getD k standE.dflt)).c := (g_row6 _ (getD_mem (d := standE.dflt) (show k < rw.length from (by omega)))).2.2
           refine DOp.exu rfl (by kernel_rfl) rfl (by kernel_rfl) (q_storeF (v := (.slice a211 ((([] ++ (((rw.getD k standE.dflt)).ws)) ++ ([(((l.getD i actE.dflt)).w)])).length) k211)) (xs := rw) (i := k) 2 (StandD.mk (((rw.getD k standE.dflt)).fact) (((rw.getD k standE.dflt)).free) a211 (([] ++ (((rw.getD k standE.dflt)).ws)) ++ ([(((l.getD i actE.dflt)).w)])) k211) G212 s215 (by omega) (by decide) rfl (by kernel_rfl) (by kernel_rfl) (by kernel_rfl) rfl rfl rfl) (fun w216 p_ => by obtain ⟨M216, G216, o216⟩ := p_; exact ⟨.inl (by kernel_rfl), .inl (by kernel_rfl), trivial⟩) ?_
           rintro w216 ⟨M216, G216, o216⟩
           have g216 := all_set (i := k) (all_up @standG.mono (((((l11.trans l21).trans l203).trans l204).trans l209).trans l212) g_row6) (show standG h212 (StandD.mk (((rw.getD k standE.dflt)).fact) (((rw.getD k standE.dflt)).free) a211 (([] ++ (((rw.getD k standE.dflt)).ws)) ++ ([(((l.getD i actE.dflt)).w)])) k211) from ⟨(r212.mono (PH.le_refl _)), (all_up @whyG.mono l212 g211), (by first | omega | (dsimp only; first | omega | assumption) | simp)⟩)
           refine DW.done (by kernel_rfl) ?_
           refine EX.in_block ?_
           have hrs : (rw.set k (StandD.mk (((rw.getD k standE.dflt)).fact) (((rw.getD k standE.dflt)).free) a211 (([] ++ (((rw.getD k standE.dflt)).ws)) ++ ([(((l.getD i actE.dflt)).w)])) k211)).map absS = (supA (rw.map absS) k (datW (((l.getD i actE.dflt)).w))) := sup_out hkx (fun q_ => by have q2_ := idx_ge q_; omega) (by simp [absS])
           have hokn : DsOk ((rw.set k (StandD.mk (((rw.getD k standE.dflt)).fact) (((rw.getD k standE.dflt)).free) a211 (([] ++ (((rw.getD k standE.dflt)).ws)) ++ ([(((l.getD i actE.dflt)).w)])) k211)).map absS) (supC (rw.map absS) k cm (datW (((l.getD i actE.dflt)).w))) := DsOk.cast hrs.symm ((hok.of hof).sup hof.lt.1 _)
           have Bt : TabA h212 t ((rw.set k (StandD.mk (((rw.getD k standE.dflt)).fact) (((rw.getD k standE.dflt)).free) a211 (([] ++ (((rw.getD k standE.dflt)).ws)) ++ ([(((l.getD i actE.dflt)).w)])) k211)).map absS) (supC (rw.map absS) k cm (datW (((l.getD i actE.dflt)).w))) (i + 1) M N213 := TabA.cast hrs.symm rfl ((TabA.mono ((l204.trans l209).trans l212) s214))
           exact EX.then_cut ⟨(rw.set k (StandD.mk (((rw.getD k standE.dflt)).fact) (((rw.getD k standE.dflt)).free) a211 (([] ++ (((rw.getD k standE.dflt)).ws)) ++ ([(((l.getD i actE.dflt)).w)])) k211)), ao, co, (supC (rw.map absS) k cm (datW (((l.getD i actE.dflt)).w)))⟩ ⟨(by kernel_rfl), (by kernel_rfl), (lk_val (x := (.slice ao rw.length co)) (by kernel_rfl) (by rw [List.length_set])), (by kernel_rfl), trivial⟩ ⟨h212, N213, M216, (((l203.trans l204).trans l209).trans l212), G216, Bt, o216, g216, hokn⟩
          ·
           skip
           refine DOp.ex rfl (by kernel_rfl) rfl (by kernel_rfl) (q_newF (ob := (.cells #[(.int .i64 ((((l.getD i actE.dflt)).w).rule)), (.int .i64 ((((l.getD i actE.dflt)).w).alt)), (.slice ((((l.getD i actE.dflt)).w).a) ((((l.getD i actE.dflt)).w).facts.length) ((((l.getD i actE.dflt)).w).c))] 28 (0, 0))) G207 (fun b_ => .slice (some ⟨b_, 0, none⟩) 1 1) (fun u_ => by kernel_rfl)) (fun v_ w217 p_ => by obtain ⟨b217, h217, rfl, l217, G217, hb217, L217⟩ := p_; exact ⟨.inr (fun _ => (s201.reads.mono (((Ly.le (lyTabA h203 t (supA (rw.map absS) k (datW (((l.getD i actE.dflt)).w))) (supC (rw.map absS) k cm (datW (((l.getD i actE.dflt)).w))) (i + 1)) A203).trans o207.le).trans G217.own))), .inl (by kernel_rfl), trivial⟩) ?_
           rintro _ w217 ⟨b217, h217, rfl, l217, G217, hb217, L217⟩
           have r218 : RS h217 whyE (some ⟨b217, 0, none⟩) [(((l.getD i actE.dflt)).w)] := RS.blk hb217 (by kernel_rfl)
           have g218 : ∀ e_ ∈ [(((l.getD i actE.dflt)).w)], whyG h217 e_ := (all_one (show whyG h217 (((l.getD i actE.dflt)).w) from ⟨((Gl (l.getD i actE.dflt) (getD_mem (d := actE.dflt) (show i < l.length from (by omega)))).mono (((((((l1.trans l5).trans l6).trans l11).trans l21).trans l203).trans l204).trans l217)), by omega⟩))
           refine DW.only 8 (by kernel_rfl) ?_
           refine DOp.ex rfl (by kernel_rfl) rfl (by kernel_rfl) (q_app (e := 28) (bytes := 40) (cap := 0) (c2 := (((rw.getD k standE.dflt)).c)) (M0 := M203) (xs := ([] : List _)) (ys := (((rw.getD k standE.dflt)).ws)) G217 o207 ((g_row6 (rw.getD k standE.dflt) (getD_mem (d := standE.dflt) (show k < rw.length from (by omega)))).1.mono (((((l11.trans l21).trans l203).trans l204).trans l217).trans G217.imm)) rfl (by kernel_rfl) (by kernel_rfl) (by kernel_rfl) (by first | (simp [maxLen]; omega) | (simp only [maxLen, List.length_append, List.length_cons, List.length_nil]; omega) | (simp only [maxLen, List.length_append, List.length_nil]; omega) | (simp only [maxLen, List.length_append, List.length_cons, List.length_nil, List.length_take, List.length_drop]; omega) | (simp only [maxLen]; omega)) (by first | omega | (simp; omega) | (simp only [List.length_append, List.length_cons, List.length_nil]; omega) | (simp only [List.length_append, List.length_cons, List.length_nil, List.length_take, List.length_drop]; omega))) (fun v_ w219 p_ => by obtain ⟨a219, k219, M219, rfl, G219, o219, z219⟩ := p_; exact ⟨.inl (by kernel_rfl), .inr (fun _ => (G219.imm _ _ ((((l21.trans l203).trans l204).trans l217) _ _ hb11))), trivial⟩) ?_
           rintro _ w219 ⟨a219, k219, M219, rfl, G219, o219, z219⟩
           have g219 : ∀ e_ ∈ ([] ++ (((rw.getD k standE.dflt)).ws)), whyG h217 e_ := all_app (all_up @whyG.mono l217 g207) (all_up @whyG.mono ((((l11.trans l21).trans l203).trans l204).trans l217) (g_row6 (rw.getD k standE.dflt) (getD_mem (d := standE.dflt) (show k < rw.length from (by omega)))).2.1)
           refine DW.only 12 (by kernel_rfl) ?_
           refine DOp.ex rfl (by kernel_rfl) rfl (by kernel_rfl) (q_app (e := 28) (bytes := 40) (cap := k219) (c2 := 1) (M0 := M203) (xs := ([] ++ (((rw.getD k standE.dflt)).ws))) (ys := ([(((l.getD i actE.dflt)).w)])) G219 o219 (r218.mono ((PH.le_refl _).trans G219.imm)) rfl (by kernel_rfl) (by kernel_rfl) (by kernel_rfl) (by first | (simp [maxLen]; omega) | (simp only [maxLen, List.length_append, List.length_cons, List.length_nil]; omega) | (simp only [maxLen, List.length_append, List.length_nil]; omega) | (simp only [maxLen, List.length_append, List.length_cons, List.length_nil, List.length_take, List.length_drop]; omega) | (simp only [maxLen]; omega)) (by first | omega | (simp; omega) | (simp only [List.length_append, List.length_cons, List.length_nil]; omega) | (simp only [List.length_append, List.length_cons, List.length_nil, List.length_take, List.length_drop]; omega))) (fun v_ w220 p_ => by obtain ⟨a220, k220, M220, rfl, G220, o220, z220⟩ := p_; exact ⟨.inr (fun _ => (s201.reads.mono (((Ly.le (lyTabA h203 t (supA (rw.map absS) k (datW (((l.getD i actE.dflt)).w))) (supC (rw.map absS) k cm (datW (((l.getD i actE.dflt)).w))) (i + 1)) A203).trans o220.le).trans G220.own))), .inr (fun _ => (G220.imm _ _ ((((l21.trans l203).trans l204).trans l217) _ _ hb11))), trivial⟩) ?_
           rintro _ w220 ⟨a220, k220, M220, rfl, G220, o220, z220⟩
           have g220 : ∀ e_ ∈ (([] ++ (((rw.getD k standE.dflt)).ws)) ++ ([(((l.getD i actE.dflt)).w)])), whyG h217 e_ := all_app g219 g218
           refine DW.take (T := fun _ => True) 13 (eptr ao (k * standE.sz)) rfl (by kernel_rfl) rfl (by kernel_rfl) (.inl fun _ => trivial) (by kernel_rfl) (Deaf.block (Deaf.thens (Deaf.block (Deaf.thens (Deaf.thens (Deaf.block (Deaf.thens (Deaf.body RetM.not_panicked)))))))) (fun w_ _ => (q_indexAddr (i := k) (E := standE) (xs := rw) (e := 43) (c := co) (k := .i64) (m := rw.length) rfl rfl (by kernel_rfl) (by kernel_rfl) (by kernel_rfl) (s201.reads.mono (((Ly.le (lyTabA h203 t (supA (rw.map absS) k (datW (((l.getD i actE.dflt)).w))) (supC (rw.map absS) k cm (datW (((l.getD i actE.dflt)).w))) (i + 1)) A203).trans o220.le).trans G220.own)) (by omega))) trivial ?_
           refine DW.take (T := fun _ => True) 14 (eptr ao (k * standE.sz + 2)) rfl (by kernel_rfl) rfl (by kernel_rfl) (.inl fun _ => trivial) (by kernel_rfl) (Deaf.block (Deaf.thens (Deaf.block (Deaf.thens (Deaf.thens (Deaf.block (Deaf.thens (Deaf.body RetM.not_panicked)))))))) (fun w_ _ => (q_fieldAddr_e (i := k) (k := k * standE.sz) (off := 2) rfl (by kernel_rfl) (by kernel_rfl) (s201.reads.mono (((Ly.le (lyTabA h203 t (supA (rw.map absS) k (datW (((l.getD i actE.dflt)).w))) (supC (rw.map absS) k cm (datW (((l.getD i actE.dflt)).w))) (i + 1)) A203).trans o220.le).trans G220.own)) (by omega))) trivial ?_
           refine DW.only 15 (by kernel_rfl) ?_
           have hcap_ := o220.cap_le
           obtain ⟨h221, l221, G221, r221⟩ := o220.freeze G220
           obtain ⟨N222, s223, s224⟩ : ∃ N_, TabA h203 t (supA (rw.map absS) k (datW (((l.getD i actE.dflt)).w))) (supC (rw.map absS) k cm (datW (((l.getD i actE.dflt)).w))) (i + 1) M N_ ∧ Own 43 standE N_ M203 ao co rw := Ly.swap (Ly.own (E := standE) 43 ao co rw) (lyTabA h203 t (supA (rw.map absS) k (datW (((l.getD i actE.dflt)).w))) (supC (rw.map absS) k cm (datW (((l.getD i actE.dflt)).w))) (i + 1)) s201 A203
           have hcl_ : ((rw.getD k standE.dflt)).ws.length ≤ ((rw.getD k standE.dflt)).c := (g_row6 _ (getD_mem (d := standE.dflt) (show k < rw.length from (by omega)))).2.2
           refine DOp.exu rfl (by kernel_rfl) rfl (by kernel_rfl) (q_storeF (v := (.slice a220 ((([] ++ (((rw.getD k standE.dflt)).ws)) ++ ([(((l.getD i actE.dflt)).w)])).length) k220)) (xs := rw) (i := k) 2 (StandD.mk (((rw.getD k standE.dflt)).fact) (((rw.getD k standE.dflt)).free) a220 (([] ++ (((rw.getD k standE.dflt)).ws)) ++ ([(((l.getD i actE.dflt)).w)])) k220) G221 s224 (by omega) (by decide) rfl (by kernel_rfl) (by kernel_rfl) (by kernel_rfl) rfl rfl rfl) (fun w225 p_ => by obtain ⟨M225, G225, o225⟩ := p_; exact ⟨.inl (by kernel_rfl), .inl (by kernel_rfl), trivial⟩) ?_
           rintro w225 ⟨M225, G225, o225⟩
           have g225 := all_set (i := k) (all_up @standG.mono (((((l11.trans l21).trans l203).trans l204).trans l217).trans l221) g_row6) (show standG h221 (StandD.mk (((rw.getD k standE.dflt)).fact) (((rw.getD k standE.dflt)).free) a220 (([] ++ (((rw.getD k standE.dflt)).ws)) ++ ([(((l.getD i actE.dflt)).w)])) k220) from ⟨(r221.mono (PH.le_refl _)), (all_up @whyG.mono l221 g220), (by first | omega | (dsimp only; first | omega | assumption) | simp)⟩)
           refine DW.done (by kernel_rfl) ?_
           refine EX.in_block ?_
           have hrs : (rw.set k (StandD.mk (((rw.getD k standE.dflt)).fact) (((rw.getD k standE.dflt)).free) a220 (([] ++ (((rw.getD k standE.dflt)).ws)) ++ ([(((l.getD i actE.dflt)).w)])) k220)).map absS = (supA (rw.map absS) k (datW (((l.getD i actE.dflt)).w))) := sup_out hkx (fun q_ => by have q2_ := idx_ge q_; omega) (by simp [absS])
           have hokn : DsOk ((rw.set k (StandD.mk (((rw.getD k standE.dflt)).fact) (((rw.getD k standE.dflt)).free) a220 (([] ++ (((rw.getD k standE.dflt)).ws)) ++ ([(((l.getD i actE.dflt)).w)])) k220)).map absS) (supC (rw.map absS) k cm (datW (((l.getD i actE.dflt)).w))) := DsOk.cast hrs.symm ((hok.of hof).sup hof.lt.1 _)
           have Bt : TabA h221 t ((rw.set k (StandD.mk (((rw.getD k standE.dflt)).fact) (((rw.getD k standE.dflt)).free) a220 (([] ++ (((rw.getD k standE.dflt)).ws)) ++ ([(((l.getD i actE.dflt)).w)])) k220)).map absS) (supC (rw.map absS) k cm (datW (((l.getD i actE.dflt)).w))) (i + 1) M N222 := TabA.cast hrs.symm rfl ((TabA.mono ((l204.trans l217).trans l221) s223))
           exact EX.then_cut ⟨(rw.set k (StandD.mk (((rw.getD k standE.dflt)).fact) (((rw.getD k standE.dflt)).free) a220 (([] ++ (((rw.getD k standE.dflt)).ws)) ++ ([(((l.getD i actE.dflt)).w)])) k220)), ao, co, (supC (rw.map absS) k cm (datW (((l.getD i actE.dflt)).w)))⟩ ⟨(by kernel_rfl), (by kernel_rfl), (lk_val (x := (.slice ao rw.length co)) (by kernel_rfl) (by rw [List.length_set])), (by kernel_rfl), trivial⟩ ⟨h221, N222, M225, (((l203.trans l204).trans l217).trans l221), G225, Bt, o225, g225, hokn⟩
         ·
          skip
          refine DOp.ex rfl (by kernel_rfl) rfl (by kernel_rfl) (q_newF (ob := (.cells #[(.int .i64 ((((l.getD i actE.dflt)).w).rule)), (.int .i64 ((((l.getD i actE.dflt)).w).alt)), (.slice ((((l.getD i actE.dflt)).w).a) ((((l.getD i actE.dflt)).w).facts.length) ((((l.getD i actE.dflt)).w).c))] 28 (0, 0))) (G204.drew) (fun b_ => .slice (some ⟨b_, 0, none⟩) 1 1) (fun u_ => by kernel_rfl)) (fun v_ w226 p_ => by obtain ⟨b226, h226, rfl, l226, G226, hb226, L226⟩ := p_; exact ⟨.inr (fun _ => (s201.reads.mono ((Ly.le (lyTabA h203 t (supA (rw.map absS) k (datW (((l.getD i actE.dflt)).w))) (supC (rw.map absS) k cm (datW (((l.getD i actE.dflt)).w))) (i + 1)) A203).trans G226.own))), .inl (by kernel_rfl), trivial⟩) ?_
          rintro _ w226 ⟨b226, h226, rfl, l226, G226, hb226, L226⟩
          have r227 : RS h226 whyE (some ⟨b226, 0, none⟩) [(((l.getD i actE.dflt)).w)] := RS.blk hb226 (by kernel_rfl)
          have g227 : ∀ e_ ∈ [(((l.getD i actE.dflt)).w)], whyG h226 e_ := (all_one (show whyG h226 (((l.getD i actE.dflt)).w) from ⟨((Gl (l.getD i actE.dflt) (getD_mem (d := actE.dflt) (show i < l.length from (by omega)))).mono (((((((l1.trans l5).trans l6).trans l11).trans l21).trans l203).trans l204).trans l226)), by omega⟩))
          refine DW.only 2 (by kernel_rfl) ?_
          refine DOp.ex rfl (by kernel_rfl) rfl (by kernel_rfl) (q_newB (ob := (.cells #[] 28 (0, 0))) G226 (fun b_ => .slice (some ⟨b_, 0, none⟩) 0 0) (fun u_ => by kernel_rfl)) (fun v_ w228 p_ => by obtain ⟨b228, M228, rfl, G228, B228, L228⟩ := p_; exact ⟨.inr (fun _ => (s201.reads.mono (((Ly.le (lyTabA h203 t (supA (rw.map absS) k (datW (((l.getD i actE.dflt)).w))) (supC (rw.map absS) k cm (datW (((l.getD i actE.dflt)).w))) (i + 1)) A203).trans B228.le).trans G228.own))), .inr (fun _ => (G228.imm _ _ ((((l21.trans l203).trans l204).trans l226) _ _ hb11))), trivial⟩) ?_
          rintro _ w228 ⟨b228, M228, rfl, G228, B228, L228⟩
          have o228 : Own 28 whyE M203 M228 (some ⟨b228, 0, none⟩) 0 ([] : List _) := Own.lit2 B228 (by kernel_rfl) (by kernel_rfl) (by decide)
          have g228 : ∀ e_ ∈ ([] : List _), whyG h226 e_ := all_nil
          refine DW.only 8 (by kernel_rfl) ?_
          refine DOp.ex rfl (by kernel_rfl) rfl (by kernel_rfl) (q_app (e := 28) (bytes := 40) (cap := 0) (c2 := (((rw.getD k standE.dflt)).c)) (M0 := M203) (xs := ([] : List _)) (ys := (((rw.getD k standE.dflt)).ws)) G228 o228 ((g_row6 (rw.getD k standE.dflt) (getD_mem (d := standE.dflt) (show k < rw.length from (by omega)))).1.mono (((((l11.trans l21).trans l203).trans l204).trans l226).trans G228.imm)) rfl (by kernel_rfl) (by kernel_rfl) (by kernel_rfl) (by first | (simp [maxLen]; omega) | (simp only [maxLen, List.length_append, List.length_cons, List.length_nil]; omega) | (simp only [maxLen, List.length_append, List.length_nil]; omega) | (simp only [maxLen, List.length_append, List.length_cons, List.length_nil, List.length_take, List.length_drop]; omega) | (simp only [maxLen]; omega)) (by first | omega | (simp; omega) | (simp only [List.length_append, List.length_cons, List.length_nil]; omega) | (simp only [List.length_append, List.length_cons, List.length_nil, List.length_take, List.length_drop]; omega))) (fun v_ w229 p_ => by obtain ⟨a229, k229, M229, rfl, G229, o229, z229⟩ := p_; exact ⟨.inl (by kernel_rfl), .inr (fun _ => (G229.imm _ _ ((((l21.trans l203).trans l204).trans l226) _ _ hb11))), trivial⟩) ?_
          rintro _ w229 ⟨a229, k229, M229, rfl, G229, o229, z229⟩
          have g229 : ∀ e_ ∈ ([] ++ (((rw.getD k standE.dflt)).ws)), whyG h226 e_ := all_app g228 (all_up @whyG.mono ((((l11.trans l21).trans l203).trans l204).trans l226) (g_row6 (rw.getD k standE.dflt) (getD_mem (d := standE.dflt) (show k < rw.length from (by omega)))).2.1)
          refine DW.only 12 (by kernel_rfl) ?_
          refine DOp.ex rfl (by kernel_rfl) rfl (by kernel_rfl) (q_app (e := 28) (bytes := 40) (cap := k229) (c2 := 1) (M0 := M203) (xs := ([] ++ (((rw.getD k standE.dflt)).ws))) (ys := ([(((l.getD i actE.dflt)).w)])) G229 o229 (r227.mono ((PH.le_refl _).trans G229.imm)) rfl (by kernel_rfl) (by kernel_rfl) (by kernel_rfl) (by first | (simp [maxLen]; omega) | (simp only [maxLen, List.length_append, List.length_cons, List.length_nil]; omega) | (simp only [maxLen, List.length_append, List.length_nil]; omega) | (simp only [maxLen, List.length_append, List.length_cons, List.length_nil, List.length_take, List.length_drop]; omega) | (simp only [maxLen]; omega)) (by first | omega | (simp; omega) | (simp only [List.length_append, List.length_cons, List.length_nil]; omega) | (simp only [List.length_append, List.length_cons, List.length_nil, List.length_take, List.length_drop]; omega))) (fun v_ w230 p_ => by obtain ⟨a230, k230, M230, rfl, G230, o230, z230⟩ := p_; exact ⟨.inr (fun _ => (s201.reads.mono (((Ly.le (lyTabA h203 t (supA (rw.map absS) k (datW (((l.getD i actE.dflt)).w))) (supC (rw.map absS) k cm (datW (((l.getD i actE.dflt)).w))) (i + 1)) A203).trans o230.le).trans G230.own))), .inr (fun _ => (G230.imm _ _ ((((l21.trans l203).trans l204).trans l226) _ _ hb11))), trivial⟩) ?_
          rintro _ w230 ⟨a230, k230, M230, rfl, G230, o230, z230⟩
          have g230 : ∀ e_ ∈ (([] ++ (((rw.getD k standE.dflt)).ws)) ++ ([(((l.getD i actE.dflt)).w)])), whyG h226 e_ := all_app g229 g227
          refine DW.take (T := fun _ => True) 13 (eptr ao (k * standE.sz)) rfl (by kernel_rfl) rfl (by kernel_rfl) (.inl fun _ => trivial) (by kernel_rfl) (Deaf.block (Deaf.thens (Deaf.block (Deaf.thens (Deaf.thens (Deaf.block (Deaf.thens (Deaf.body RetM.not_panicked)))))))) (fun w_ _ => (q_indexAddr (i := k) (E := standE) (xs := rw) (e := 43) (c := co) (k := .i64) (m := rw.length) rfl rfl (by kernel_rfl) (by kernel_rfl) (by kernel_rfl) (s201.reads.mono (((Ly.le (lyTabA h203 t (supA (rw.map absS) k (datW (((l.getD i actE.dflt)).w))) (supC (rw.map absS) k cm (datW (((l.getD i actE.dflt)).w))) (i + 1)) A203).trans o230.le).trans G230.own)) (by omega))) trivial ?_
          refine DW.take (T := fun _ => True) 14 (eptr ao (k * standE.sz + 2)) rfl (by kernel_rfl) rfl (by kernel_rfl) (.inl fun _ => trivial) (by kernel_rfl) (Deaf.block (Deaf.thens (Deaf.block (Deaf.thens (Deaf.thens (Deaf.block (Deaf.thens (Deaf.body RetM.not_panicked)))))))) (fun w_ _ => (q_fieldAddr_e (i := k) (k := k * standE.sz) (off := 2) rfl (by kernel_rfl) (by kernel_rfl) (s201.reads.mono (((Ly.le (lyTabA h203 t (supA (rw.map absS) k (datW (((l.getD i actE.dflt)).w))) (supC (rw.map absS) k cm (datW (((l.getD i actE.dflt)).w))) (i + 1)) A203).trans o230.le).trans G230.own)) (by omega))) trivial ?_
          refine DW.only 15 (by kernel_rfl) ?_
          have hcap_ := o230.cap_le
          obtain ⟨h231, l231, G231, r231⟩ := o230.freeze G230
          obtain ⟨N232, s233, s234⟩ : ∃ N_, TabA h203 t (supA (rw.map absS) k (datW (((l.getD i actE.dflt)).w))) (supC (rw.map absS) k cm (datW (((l.getD i actE.dflt)).w))) (i + 1) M N_ ∧ Own 43 standE N_ M203 ao co rw := Ly.swap (Ly.own (E := standE) 43 ao co rw) (lyTabA h203 t (supA (rw.map absS) k (datW (((l.getD i actE.dflt)).w))) (supC (rw.map absS) k cm (datW (((l.getD i actE.dflt)).w))) (i + 1)) s201 A203
          have hcl_ : ((rw.getD k standE.dflt)).ws.length ≤ ((rw.getD k standE.dflt)).c := (g_row6 _ (getD_mem (d := standE.dflt) (show k < rw.length from (by omega)))).2.2
          refine DOp.exu rfl (by kernel_rfl) rfl (by kernel_rfl) (q_storeF (v := (.slice a230 ((([] ++ (((rw.getD k standE.dflt)).ws)) ++ ([(((l.getD i actE.dflt)).w)])).length) k230)) (xs := rw) (i := k) 2 (StandD.mk (((rw.getD k standE.dflt)).fact) (((rw.getD k standE.dflt)).free) a230 (([] ++ (((rw.getD k standE.dflt)).ws)) ++ ([(((l.getD i actE.dflt)).w)])) k230) G231 s234 (by omega) (by decide) rfl (by kernel_rfl) (by kernel_rfl) (by kernel_rfl) rfl rfl rfl) (fun w235 p_ => by obtain ⟨M235, G235, o235⟩ := p_; exact ⟨.inl (by kernel_rfl), .inl (by kernel_rfl), trivial⟩) ?_
          rintro w235 ⟨M235, G235, o235⟩
          have g235 := all_set (i := k) (all_up @standG.mono (((((l11.trans l21).trans l203).trans l204).trans l226).trans l231) g_row6) (show standG h231 (StandD.mk (((rw.getD k standE.dflt)).fact) (((rw.getD k standE.dflt)).free) a230 (([] ++ (((rw.getD k standE.dflt)).ws)) ++ ([(((l.getD i actE.dflt)).w)])) k230) from ⟨(r231.mono (PH.le_refl _)), (all_up @whyG.mono l231 g230), (by first | omega | (dsimp only; first | omega | assumption) | simp)⟩)
          refine DW.done (by kernel_rfl) ?_
          refine EX.in_block ?_
          have hrs : (rw.set k (StandD.mk (((rw.getD k standE.dflt)).fact) (((rw.getD k standE.dflt)).free) a230 (([] ++ (((rw.getD k standE.dflt)).ws)) ++ ([(((l.getD i actE.dflt)).w)])) k230)).map absS = (supA (rw.map absS) k (datW (((l.getD i actE.dflt)).w))) := sup_out hkx (fun q_ => by have q2_ := idx_ge q_; omega) (by simp [absS])
          have hokn : DsOk ((rw.set k (StandD.mk (((rw.getD k standE.dflt)).fact) (((rw.getD k standE.dflt)).free) a230 (([] ++ (((rw.getD k standE.dflt)).ws)) ++ ([(((l.getD i actE.dflt)).w)])) k230)).map absS) (supC (rw.map absS) k cm (datW (((l.getD i actE.dflt)).w))) := DsOk.cast hrs.symm ((hok.of hof).sup hof.lt.1 _)
          have Bt : TabA h231 t ((rw.set k (StandD.mk (((rw.getD k standE.dflt)).fact) (((rw.getD k standE.dflt)).free) a230 (([] ++ (((rw.getD k standE.dflt)).ws)) ++ ([(((l.getD i actE.dflt)).w)])) k230)).map absS) (supC (rw.map absS) k cm (datW (((l.getD i actE.dflt)).w))) (i + 1) M N232 := TabA.cast hrs.symm rfl ((TabA.mono ((l204.trans l226).trans l231) s233))
          exact EX.then_cut ⟨(rw.set k (StandD.mk (((rw.getD k standE.dflt)).fact) (((rw.getD k standE.dflt)).free) a230 (([] ++ (((rw.getD k standE.dflt)).ws)) ++ ([(((l.getD i actE.dflt)).w)])) k230)), ao, co, (supC (rw.map absS) k cm (datW (((l.getD i actE.dflt)).w)))⟩ ⟨(by kernel_rfl), (by kernel_rfl), (lk_val (x := (.slice ao rw.length co)) (by kernel_rfl) (by rw [List.length_set])), (by kernel_rfl), trivial⟩ ⟨h231, N232, M235, (((l203.trans l204).trans l226).trans l231), G235, Bt, o235, g235, hokn⟩
        ·
         skip
         have d236 := of_decide_eq_false c205
         refine CW.skip ?_
         refine EX.in_block ?_
         have hrs : rw.map absS = (supA (rw.map absS) k (datW (((l.getD i actE.dflt)).w))) := sup_in hkx (Classical.byContradiction fun q_ => idx_no q_ (by omega))
         have hokn : DsOk (rw.map absS) (supC (rw.map absS) k cm (datW (((l.getD i actE.dflt)).w))) := DsOk.cast hrs.symm ((hok.of hof).sup hof.lt.1 _)
         have Bt : TabA h204 t (rw.map absS) (supC (rw.map absS) k cm (datW (((l.getD i actE.dflt)).w))) (i + 1) N200 M203 := TabA.cast hrs.symm rfl ((TabA.mono l204 A203))
         obtain ⟨N237, s238, s239⟩ : ∃ N_, TabA h204 t (rw.map absS) (supC (rw.map absS) k cm (datW (((l.getD i actE.dflt)).w))) (i + 1) M N_ ∧ Own 43 standE N_ M203 ao co rw := Ly.swap (Ly.own (E := standE) 43 ao co rw) (lyTabA h204 t (rw.map absS) (supC (rw.map absS) k cm (datW (((l.getD i actE.dflt)).w))) (i + 1)) s201 Bt
         exact EX.then_cut ⟨rw, ao, co, (supC (rw.map absS) k cm (datW (((l.getD i actE.dflt)).w)))⟩ ⟨(by kernel_rfl), (by kernel_rfl), (by kernel_rfl), (by kernel_rfl), trivial⟩ ⟨h204, N237, M203, (l203.trans l204), G204, s238, s239, (all_up @standG.mono (((l11.trans l21).trans l203).trans l204) g_row6), hokn⟩
       ·
        skip
        have d240 := ne_of_beq_false c198
        refine CW.seq ?_
        refine CW.region ?_
        refine WL.q (.bool ((((l.getD i actE.dflt)).op : Int) == 3)) (by kernel_rfl) rfl (by kernel_rfl) (by kernel_rfl) ?_
        refine WL.q (.bool ((((l.getD i actE.dflt)).op : Int) == 3)) (by kernel_rfl) rfl (by kernel_rfl) (by kernel_rfl) ?_
        refine WL.nil ?_
        refine EX.then_code ?_
        refine CW.cond ((((l.getD i actE.dflt)).op : Int) == 3) (by kernel_rfl) (by kernel_rfl) (fun c241 => ?_) (fun c241 => ?_)
        ·
         skip
         have d242 := eq_of_beq c241
         refine CW.seq ?_
         refine CW.region ?_
         rcases (trivial : True) with _
         ·
          skip
          have hnT : ((rw.map absS).map (·.1)).Nodup := (o_tab6.ok).1
          refine WL.q (.pointer (some ⟨t, 0, none⟩)) (by kernel_rfl) rfl (by kernel_rfl) (by kernel_rfl) ?_
          refine WL.q (.pointer (some ⟨b9, 1, none⟩)) (by kernel_rfl) rfl (by kernel_rfl) (by kernel_rfl) ?_
          refine WL.q (.int .i64 (((l.getD i actE.dflt)).fact)) (by kernel_rfl) rfl (by kernel_rfl) (q_load (off := 1) rfl (by kernel_rfl) (by kernel_rfl) (G21.imm _ _ (l21 _ _ hb11)) (by kernel_rfl)) ?_
          obtain ⟨N243, s244, s245⟩ : ∃ N_, Own 43 standE M N_ ao co rw ∧ TabA h6 t (rw.map absS) cm i N_ M1_6 := Ly.swap (lyTabA h6 t (rw.map absS) cm i) (Ly.own (E := standE) 43 ao co rw) o_tab6 o_row6
          refine WL.call (by kernel_rfl) rfl (by kernel_rfl) (by kernel_rfl) (forgetA_spec G21 (TabA.mono (l11.trans l21) s245) ((l.getD i actE.dflt)).fact (by omega)) (RetM.elim ?_)
          rintro w246 h246 M246 _ l246 G246 ⟨rfl, A246⟩
          refine WL.nil ?_
          refine EX.then_code ?_
          refine CW.seq ?_
          refine CW.region ?_
          rcases (trivial : True) with _
          ·
           skip
           have hcapr := s244.cap_le
           obtain ⟨N247, s248, s249⟩ : ∃ N_, TabA h246 t ((rw.map absS).filter fun d => decide (d.1 ≠ ((l.getD i actE.dflt)).fact)) (sweepA ((rw.map absS).filter fun d => decide (d.1 ≠ ((l.getD i actE.dflt)).fact)) cm) i M N_ ∧ Own 43 standE N_ M246 ao co rw := Ly.swap (Ly.own (E := standE) 43 ao co rw) (lyTabA h246 t ((rw.map absS).filter fun d => decide (d.1 ≠ ((l.getD i actE.dflt)).fact)) (sweepA ((rw.map absS).filter fun d => decide (d.1 ≠ ((l.getD i actE.dflt)).fact)) cm) i) s244 A246
           obtain ⟨h250, l250, G250, r250⟩ := s249.freeze G246
           refine WL.q (.int .i64 (k : Int)) (by kernel_rfl) rfl (by kernel_rfl) (by kernel_rfl) ?_
           refine WL.q (.bool (decide ((k : Int) ≥ 0))) (by kernel_rfl) rfl (by kernel_rfl) (by kernel_rfl) ?_
           refine WL.know 111 (.bool true) (x := (.bool (decide ((k : Int) ≥ 0)))) (by kernel_rfl) (congrArg Value.bool (decide_eq_true (by omega))) ?_
           refine WL.nil ?_
           refine EX.then_code ?_
           refine CW.cond_t (by kernel_rfl) (by kernel_rfl) ?_
           refine CW.draw (by kernel_rfl) [] ?_
           refine DW.take (T := fun _ => True) 1 (.slice ao rw.length co) rfl (by kernel_rfl) rfl (by kernel_rfl) (.inl fun _ => trivial) (by kernel_rfl) (Deaf.block (Deaf.thens (Deaf.block (Deaf.thens (Deaf.thens (Deaf.block (Deaf.thens (Deaf.body RetM.not_panicked)))))))) (fun w_ _ => (by kernel_rfl)) trivial ?_
           refine DW.take (T := fun _ => True) 2 (.int .i64 (k : Int)) rfl (by kernel_rfl) rfl (by kernel_rfl) (.inl fun _ => trivial) (by kernel_rfl) (Deaf.block (Deaf.thens (Deaf.block (Deaf.thens (Deaf.thens (Deaf.block (Deaf.thens (Deaf.body RetM.not_panicked)))))))) (fun w_ _ => (by kernel_rfl)) trivial ?_
           refine DW.take (T := fun _ => True) 3 (.slice ao (((rw.take k)).length) co) rfl (by kernel_rfl) rfl (by kernel_rfl) (.inl fun _ => trivial) (by kernel_rfl) (Deaf.block (Deaf.thens (Deaf.block (Deaf.thens (Deaf.thens (Deaf.block (Deaf.thens (Deaf.body RetM.not_panicked)))))))) (fun w_ _ => (q_val (q_upto (e := 43) (sz := 3) (len := rw.length) (cap := co) (k := .i64) rfl (by kernel_rfl) (by kernel_rfl) (by kernel_rfl) (Nat.le_trans (show k ≤ rw.length by omega) (by omega))) (by rw [List.length_take, Nat.min_eq_left (by omega)]))) trivial ?_
           refine DW.take (T := fun _ => True) 5 (.slice ao rw.length co) rfl (by kernel_rfl) rfl (by kernel_rfl) (.inl fun _ => trivial) (by kernel_rfl) (Deaf.block (Deaf.thens (Deaf.block (Deaf.thens (Deaf.thens (Deaf.block (Deaf.thens (Deaf.body RetM.not_panicked)))))))) (fun w_ _ => (by kernel_rfl)) trivial ?_
           refine DW.take (T := fun _ => True) 6 (.int .i64 (k : Int)) rfl (by kernel_rfl) rfl (by kernel_rfl) (.inl fun _ => trivial) (by kernel_rfl) (Deaf.block (Deaf.thens (Deaf.block (Deaf.thens (Deaf.thens (Deaf.block (Deaf.thens (Deaf.body RetM.not_panicked)))))))) (fun w_ _ => (by kernel_rfl)) trivial ?_
           refine DW.take (T := fun _ => True) 7 (.int .i64 ((k + 1 : Nat) : Int)) rfl (by kernel_rfl) rfl (by kernel_rfl) (.inl fun _ => trivial) (by kernel_rfl) (Deaf.block (Deaf.thens (Deaf.block (Deaf.thens (Deaf.thens (Deaf.block (Deaf.thens (Deaf.body RetM.not_panicked)))))))) (fun w_ _ => (q_int (x := IntKind.i64.wrap ((k : Int) + 1)) (by kernel_rfl) (wrap_to (by omega) (by omega) (by omega)))) trivial ?_
           refine DW.take (T := fun _ => True) 8 (.slice (aft ao co (k + 1) 3) (((rw.drop (k + 1))).length) (co - (k + 1))) rfl (by kernel_rfl) rfl (by kernel_rfl) (.inl fun _ => trivial) (by kernel_rfl) (Deaf.block (Deaf.thens (Deaf.block (Deaf.thens (Deaf.thens (Deaf.block (Deaf.thens (Deaf.body RetM.not_panicked)))))))) (fun w_ _ => (q_val (q_from (e := 43) (sz := 3) (len := rw.length) (cap := co) (lo := (k + 1)) (k := .i64) rfl (by kernel_rfl) (by kernel_rfl) (by kernel_rfl) (show (k + 1) ≤ rw.length by omega)) (by rw [List.length_drop]))) trivial ?_
           refine DW.only 0 (by kernel_rfl) ?_
           refine DOp.ex rfl (by kernel_rfl) rfl (by kernel_rfl) (q_newB (ob := (.cells #[] 43 (0, 0))) (G250.drew) (fun b_ => .slice (some ⟨b_, 0, none⟩) 0 0) (fun u_ => by kernel_rfl)) (fun v_ w251 p_ => by obtain ⟨b251, M251, rfl, G251, B251, L251⟩ := p_; exact trivial) ?_
           rintro _ w251 ⟨b251, M251, rfl, G251, B251, L251⟩
           have o251 : Own 43 standE N247 M251 (some ⟨b251, 0, none⟩) 0 ([] : List _) := Own.lit2 B251 (by kernel_rfl) (by kernel_rfl) (by decide)
           have g251 : ∀ e_ ∈ ([] : List _), standG h250 e_ := all_nil
           refine DW.only 4 (by kernel_rfl) ?_
           refine DOp.ex rfl (by kernel_rfl) rfl (by kernel_rfl) (q_app (e := 43) (bytes := 40) (cap := 0) (c2 := co) (M0 := N247) (xs := ([] : List _)) (ys := (rw.take k)) G251 o251 ((r250.upto k).mono ((PH.le_refl _).trans G251.imm)) rfl (by kernel_rfl) (by kernel_rfl) (by kernel_rfl) (by first | (simp [maxLen]; omega) | (simp only [maxLen, List.length_append, List.length_cons, List.length_nil]; omega) | (simp only [maxLen, List.length_append, List.length_nil]; omega) | (simp only [maxLen, List.length_append, List.length_cons, List.length_nil, List.length_take, List.length_drop]; omega) | (simp only [maxLen]; omega)) (by first | omega | (simp; omega) | (simp only [List.length_append, List.length_cons, List.length_nil]; omega) | (simp only [List.length_append, List.length_cons, List.length_nil, List.length_take, List.length_drop]; omega))) (fun v_ w252 p_ => by obtain ⟨a252, k252, M252, rfl, G252, o252, z252⟩ := p_; exact trivial) ?_
           rintro _ w252 ⟨a252, k252, M252, rfl, G252, o252, z252⟩
           have g252 : ∀ e_ ∈ ([] ++ (rw.take k)), standG h250 e_ := all_app g251 (all_up @standG.mono (((l11.trans l21).trans l246).trans l250) (all_take g_row6))
           refine DW.only 9 (by kernel_rfl) ?_
           refine DOp.ex rfl (by kernel_rfl) rfl (by kernel_rfl) (q_app (e := 43) (bytes := 40) (cap := k252) (c2 := (co - (k + 1))) (M0 := N247) (xs := ([] ++ (rw.take k))) (ys := (rw.drop (k + 1))) G252 o252 ((r250.aft (cap := co) (show (k + 1) ≤ rw.length by omega) (by omega)).mono ((PH.le_refl _).trans G252.imm)) rfl (by kernel_rfl) (by kernel_rfl) (by kernel_rfl) (by first | (simp [maxLen]; omega) | (simp only [maxLen, List.length_append, List.length_cons, List.length_nil]; omega) | (simp only [maxLen, List.length_append, List.length_nil]; omega) | (simp only [maxLen, List.length_append, List.length_cons, List.length_nil, List.length_take, List.length_drop]; omega) | (simp only [maxLen]; omega)) (by first | omega | (simp; omega) | (simp only [List.length_append, List.length_cons, List.length_nil]; omega) | (simp only [List.length_append, List.length_cons, List.length_nil, List.length_take, List.length_drop]; omega))) (fun v_ w253 p_ => by obtain ⟨a253, k253, M253, rfl, G253, o253, z253⟩ := p_; exact trivial) ?_
           rintro _ w253 ⟨a253, k253, M253, rfl, G253, o253, z253⟩
           have g253 : ∀ e_ ∈ (([] ++ (rw.take k)) ++ (rw.drop (k + 1))), standG h250 e_ := all_app g252 (all_up @standG.mono (((l11.trans l21).trans l246).trans l250) (all_drop g_row6))
           refine DW.take (T := fun _ => True) 10 (.slice a253 ((([] ++ (rw.take k)) ++ (rw.drop (k + 1))).length) k253) rfl (by kernel_rfl) rfl (by kernel_rfl) (.inl fun _ => trivial) (by kernel_rfl) (Deaf.block (Deaf.thens (Deaf.block (Deaf.thens (Deaf.thens (Deaf.block (Deaf.thens (Deaf.body RetM.not_panicked)))))))) (fun w_ _ => (by kernel_rfl)) trivial ?_
           refine DW.done (by kernel_rfl) ?_
           refine EX.in_block ?_
           have hrs : (([] ++ (rw.take k)) ++ (rw.drop (k + 1))).map absS = ((rw.map absS).filter fun d => decide (d.1 ≠ ((l.getD i actE.dflt)).fact)) := by rw [forget_eq hnT (by simpa using hk) (by rw [abs_getS hk]; exact hfk)]; simp [List.map_take, List.map_drop]
           have hokn : DsOk ((([] ++ (rw.take k)) ++ (rw.drop (k + 1))).map absS) (sweepA ((rw.map absS).filter fun d => decide (d.1 ≠ ((l.getD i actE.dflt)).fact)) cm) := DsOk.cast hrs.symm (hok.forget _)
           have Bt : TabA h250 t ((([] ++ (rw.take k)) ++ (rw.drop (k + 1))).map absS) (sweepA ((rw.map absS).filter fun d => decide (d.1 ≠ ((l.getD i actE.dflt)).fact)) cm) (i + 1) M N247 := TabA.cast hrs.symm rfl (TabA.up (by omega) (TabA.mono l250 s248))
           exact EX.then_cut ⟨(([] ++ (rw.take k)) ++ (rw.drop (k + 1))), a253, k253, (sweepA ((rw.map absS).filter fun d => decide (d.1 ≠ ((l.getD i actE.dflt)).fact)) cm)⟩ ⟨(by kernel_rfl), (by kernel_rfl), (by kernel_rfl), (by kernel_rfl), trivial⟩ ⟨h250, N247, M253, (l246.trans l250), G253, Bt, o253, g253, hokn⟩
        ·
         skip
         have d254 := ne_of_beq_false c241
         refine CW.seq ?_
         refine CW.region ?_
         refine WL.q (.bool ((((l.getD i actE.dflt)).op : Int) == 4)) (by kernel_rfl) rfl (by kernel_rfl) (by kernel_rfl) ?_
         refine WL.q (.bool ((((l.getD i actE.dflt)).op : Int) == 4)) (by kernel_rfl) rfl (by kernel_rfl) (by kernel_rfl) ?_
         refine WL.nil ?_
         refine EX.then_code ?_
         refine CW.cond ((((l.getD i actE.dflt)).op : Int) == 4) (by kernel_rfl) (by kernel_rfl) (fun c255 => ?_) (fun c255 => ?_)
         ·
          skip
          have d256 := eq_of_beq c255
          refine CW.seq ?_
          refine CW.region ?_
          refine WL.q (.slice none 0 0) (by kernel_rfl) rfl (by kernel_rfl) (by kernel_rfl) ?_
          refine WL.nil ?_
          refine EX.then_code ?_
          refine CW.seq ?_
          refine CW.seq ?_
          refine CW.region ?_
          refine WL.q (.int .i64 0) (by kernel_rfl) rfl (by kernel_rfl) (by kernel_rfl) ?_
          refine WL.nil ?_
          refine EX.then_code ?_
          refine CW.block ?_
          refine CW.loop (β := Nat × List StandD × List Int × Option Addr × Nat) (fun x_ => [(0, (.slice a l.length c)), (3, (.pointer (some ⟨t, 0, none⟩))), (4, (.slice ao rw.length co)), (5, (.int .i64 (i : Int))), (6, (.pointer (some ⟨b9, 0, none⟩))), (8, (.slice x_.2.2.2.1 x_.2.2.1.length x_.2.2.2.2)), (9, (.int .i64 (x_.1 : Int)))]) (fun x_ w_ => ∃ h_ M0_ M1_, (PH.le h21 h_) ∧ (Wld K w_ h_ M1_) ∧ (Own 43 standE M0_6 M0_ ao co x_.2.1) ∧ (Own 3 intE M0_ M1_ x_.2.2.2.1 x_.2.2.2.2 x_.2.2.1) ∧ (∀ e_ ∈ x_.2.1, standG h_ e_) ∧ (x_.1 ≤ rw.length) ∧ (x_.2.1.length = rw.length) ∧ (x_.2.1.map absS = CutJ (rw.map absS) (datW (((l.getD i actE.dflt)).w)) x_.1) ∧ (x_.2.2.1 = (((rw.map absS).take x_.1).filter (lostd (datW (((l.getD i actE.dflt)).w)))).map (·.1)) ∧ (x_.2.2.1.length ≤ x_.1)) (fun x_ => rw.length - x_.1) ⟨0, rw, [], none, 0⟩ ⟨(by kernel_rfl), (by kernel_rfl), (by kernel_rfl), (by kernel_rfl), (by kernel_rfl), (by kernel_rfl), (lk_int (x := 0) (by kernel_rfl) (by first | omega | (dsimp only; omega) | rfl | (dsimp only; rfl))), trivial⟩ ⟨h21, M1_6, M1_6, (PH.le_refl _), G21, o_row6, (Own.nil 3 intE M1_6), (all_up @standG.mono (l11.trans l21) g_row6), (by first | omega | assumption | (dsimp only [List.length_nil, List.length_append, List.length_cons]; omega)), rfl, (cutJ_zero _ _), rfl, (Nat.le_refl _)⟩ ?_
          rintro ⟨j, rj, os, ag, cg⟩ w257 ⟨h257, M0_257, M1_257, l257, G257, o_row257, o_gone257, g_row257, hj, hjl, hrj, hos, hol⟩
          try dsimp only at *
          have hwj : ∀ s ∈ rj, s.ws.length ≤ i := cutJ_lens hrj hwl
          have hdj : ∀ s ∈ rj, (s.ws.map datW).Nodup := cutJ_nodup hrj hok.2
          refine CW.seq ?_
          refine CW.seq ?_
          refine CW.region ?_
          refine WL.q (.int .i64 (j : Int)) (by kernel_rfl) rfl (by kernel_rfl) (by kernel_rfl) ?_
          refine WL.q (.slice ao rw.length co) (by kernel_rfl) rfl (by kernel_rfl) (by kernel_rfl) ?_
          refine WL.q (.int .i64 (rw.length : Int)) (by kernel_rfl) rfl (by kernel_rfl) (by kernel_rfl) ?_
          refine WL.q (.bool (decide ((j : Int) < (rw.length : Int)))) (by kernel_rfl) rfl (by kernel_rfl) (by kernel_rfl) ?_
          refine WL.nil ?_
          refine EX.then_code ?_
          refine CW.cond (decide ((j : Int) < (rw.length : Int))) (by kernel_rfl) (by kernel_rfl) (fun c258 => ?_) (fun c258 => ?_)
          ·
           skip
           have d259 := of_decide_eq_true c258
           refine CW.skip ?_
           refine EX.then_code ?_
           refine CW.seq ?_
           refine CW.block ?_
           refine CW.seq ?_
           refine CW.draw (by kernel_rfl) [(4, fun w_ => RS (PH.all w_) standE ao rj), (6, fun w_ => PH.all w_ b9 = some (.cells #[(.int .i64 (((l.getD i actE.dflt)).op)), (.int .i64 (((l.getD i actE.dflt)).fact)), (.int .i64 ((((l.getD i actE.dflt)).w).rule)), (.int .i64 ((((l.getD i actE.dflt)).w).alt)), (.slice ((((l.getD i actE.dflt)).w).a) ((((l.getD i actE.dflt)).w).facts.length) ((((l.getD i actE.dflt)).w).c))] 40 (0, 0)))] ?_
           refine DW.take (T := fun _ => True) 0 (.slice ao rw.length co) rfl (by kernel_rfl) rfl (by kernel_rfl) (.inl fun _ => trivial) (by kernel_rfl) (Deaf.thens (Deaf.block (Deaf.thens (Deaf.thens (Deaf.block (Deaf.thens (Deaf.block (Deaf.thens (Deaf.block (Deaf.thens (Deaf.thens (Deaf.block (Deaf.thens (Deaf.body RetM.not_panicked)))))))))))))) (fun w_ _ => (by kernel_rfl)) trivial ?_
           refine DW.take (T := fun _ => True) 1 (.int .i64 (j : Int)) rfl (by kernel_rfl) rfl (by kernel_rfl) (.inl fun _ => trivial) (by kernel_rfl) (Deaf.thens (Deaf.block (Deaf.thens (Deaf.thens (Deaf.block (Deaf.thens (Deaf.block (Deaf.thens (Deaf.block (Deaf.thens (Deaf.thens (Deaf.block (Deaf.thens (Deaf.body RetM.not_panicked)))))))))))))) (fun w_ _ => (by kernel_rfl)) trivial ?_
           refine DW.take (T := fun _ => True) 2 (eptr ao (j * standE.sz)) rfl (by kernel_rfl) rfl (by kernel_rfl) (.inl fun _ => trivial) (by kernel_rfl) (Deaf.thens (Deaf.block (Deaf.thens (Deaf.thens (Deaf.block (Deaf.thens (Deaf.block (Deaf.thens (Deaf.block (Deaf.thens (Deaf.thens (Deaf.block (Deaf.thens (Deaf.body RetM.not_panicked)))))))))))))) (fun w_ _ => (q_indexAddr (i := j) (E := standE) (xs := rj) (e := 43) (c := co) (k := .i64) (m := rw.length) (by omega) rfl (by kernel_rfl) (by kernel_rfl) (by kernel_rfl) (o_row257.reads.mono (o_gone257.le.trans (G257.drew).own)) (by omega))) trivial ?_
           refine DW.take (T := fun _ => True) 3 (eptr ao (j * standE.sz + 2)) rfl (by kernel_rfl) rfl (by kernel_rfl) (.inl fun _ => trivial) (by kernel_rfl) (Deaf.thens (Deaf.block (Deaf.thens (Deaf.thens (Deaf.block (Deaf.thens (Deaf.block (Deaf.thens (Deaf.block (Deaf.thens (Deaf.thens (Deaf.block (Deaf.thens (Deaf.body RetM.not_panicked)))))))))))))) (fun w_ _ => (q_fieldAddr_e (i := j) (k := j * standE.sz) (off := 2) rfl (by kernel_rfl) (by kernel_rfl) (o_row257.reads.mono (o_gone257.le.trans (G257.drew).own)) (by omega))) trivial ?_
           refine DW.take (T := fun w_ => RS (PH.all w_) standE ao rj) 4 (.slice (((rj.getD j standE.dflt)).a) (((rj.getD j standE.dflt)).ws.length) (((rj.getD j standE.dflt)).c)) rfl (by kernel_rfl) rfl (by kernel_rfl) (.inr (by first | exact .head _ | exact .tail _ (.head _) | exact .tail _ (.tail _ (.head _)) | exact .tail _ (.tail _ (.tail _ (.head _))) | simp)) (by kernel_rfl) (Deaf.thens (Deaf.block (Deaf.thens (Deaf.thens (Deaf.block (Deaf.thens (Deaf.block (Deaf.thens (Deaf.block (Deaf.thens (Deaf.thens (Deaf.block (Deaf.thens (Deaf.body RetM.not_panicked)))))))))))))) (fun w_ T_ => (q_load_e (i := j) (k := 2) (E := standE) rfl (by kernel_rfl) (by kernel_rfl) T_ (by omega) (by decide) (by kernel_rfl))) (o_row257.reads.mono (o_gone257.le.trans (G257.drew).own)) ?_
           refine DW.take (T := fun _ => True) 5 (.pointer (some ⟨b9, 2, none⟩)) rfl (by kernel_rfl) rfl (by kernel_rfl) (.inl fun _ => trivial) (by kernel_rfl) (Deaf.thens (Deaf.block (Deaf.thens (Deaf.thens (Deaf.block (Deaf.thens (Deaf.block (Deaf.thens (Deaf.block (Deaf.thens (Deaf.thens (Deaf.block (Deaf.thens (Deaf.body RetM.not_panicked)))))))))))))) (fun w_ _ => (by kernel_rfl)) trivial ?_
           refine DW.take (T := fun w_ => PH.all w_ b9 = some (.cells #[(.int .i64 (((l.getD i actE.dflt)).op)), (.int .i64 (((l.getD i actE.dflt)).fact)), (.int .i64 ((((l.getD i actE.dflt)).w).rule)), (.int .i64 ((((l.getD i actE.dflt)).w).alt)), (.slice ((((l.getD i actE.dflt)).w).a) ((((l.getD i actE.dflt)).w).facts.length) ((((l.getD i actE.dflt)).w).c))] 40 (0, 0))) 6 (.agg #[(.int .i64 ((((l.getD i actE.dflt)).w).rule)), (.int .i64 ((((l.getD i actE.dflt)).w).alt)), (.slice ((((l.getD i actE.dflt)).w).a) ((((l.getD i actE.dflt)).w).facts.length) ((((l.getD i actE.dflt)).w).c))]) rfl (by kernel_rfl) rfl (by kernel_rfl) (.inr (by first | exact .head _ | exact .tail _ (.head _) | exact .tail _ (.tail _ (.head _)) | exact .tail _ (.tail _ (.tail _ (.head _))) | simp)) (by kernel_rfl) (Deaf.thens (Deaf.block (Deaf.thens (Deaf.thens (Deaf.block (Deaf.thens (Deaf.block (Deaf.thens (Deaf.block (Deaf.thens (Deaf.thens (Deaf.block (Deaf.thens (Deaf.body RetM.not_panicked)))))))))))))) (fun w_ T_ => (q_loadAgg (off := 2) (vs := [(.int .i64 ((((l.getD i actE.dflt)).w).rule)), (.int .i64 ((((l.getD i actE.dflt)).w).alt)), (.slice ((((l.getD i actE.dflt)).w).a) ((((l.getD i actE.dflt)).w).facts.length) ((((l.getD i actE.dflt)).w).c))]) rfl (by kernel_rfl) (by kernel_rfl) T_ (agg_at (by kernel_rfl)))) ((G257.drew).imm _ _ ((l21.trans l257) _ _ hb11)) ?_
           refine DW.only 7 (by kernel_rfl) ?_
           have hgw_ := hwj _ (getD_mem (d := standE.dflt) (show j < rj.length by omega))
           refine DOp.call rfl (by kernel_rfl) rfl (by kernel_rfl) (by kernel_rfl) (find_spec (l := (((rj.getD j standE.dflt)).ws)) (c := (((rj.getD j standE.dflt)).c)) (G257.drew) ((g_row257 (rj.getD j standE.dflt) (getD_mem (d := standE.dflt) (show j < rj.length from (by omega)))).1.mono (PH.le_refl _)) (g_row257 (rj.getD j standE.dflt) (getD_mem (d := standE.dflt) (show j < rj.length from (by omega)))).2.1 (by omega) (y := (((l.getD i actE.dflt)).w)) (show whyG h257 (((l.getD i actE.dflt)).w) from ⟨(Gl _ (getD_mem (d := actE.dflt) (show i < l.length by omega))).mono (((((l1.trans l5).trans l6).trans l11).trans l21).trans l257), by omega⟩)) (Ret.elimD (fun w260 h260 l260 G260 => ⟨.inl (by kernel_rfl), .inl (by kernel_rfl), trivial⟩) ?_)
           rintro w260 h260 _ l260 G260 rfl
           refine DW.take (T := fun _ => True) 8 (.int .i64 (idxF (fun x => sameW x (((l.getD i actE.dflt)).w)) (((rj.getD j standE.dflt)).ws))) rfl (by kernel_rfl) rfl (by kernel_rfl) (.inl fun _ => trivial) (by kernel_rfl) (Deaf.thens (Deaf.block (Deaf.thens (Deaf.thens (Deaf.block (Deaf.thens (Deaf.block (Deaf.thens (Deaf.block (Deaf.thens (Deaf.thens (Deaf.block (Deaf.thens (Deaf.body RetM.not_panicked)))))))))))))) (fun w_ _ => (by kernel_rfl)) trivial ?_
           refine DW.done (by kernel_rfl) ?_
           refine EX.then_code ?_
           refine CW.seq ?_
           refine CW.seq ?_
           refine CW.region ?_
           rcases idxF_cases (fun x => sameW x (((l.getD i actE.dflt)).w)) (((rj.getD j standE.dflt)).ws) whyE.dflt with ⟨ex, hnall⟩ | ⟨x0, hx0, ex, px0, _⟩
           ·
            skip
            have hgj : absS (rj.getD j standE.dflt) = (rw.map absS).getD j rowT0 := by rw [← abs_getS (by omega), hrj, cutJ_at (by simpa using (show j < rw.length by omega))]
            have hnw : datW (((l.getD i actE.dflt)).w) ∉ ((rw.map absS).getD j rowT0).2.2 := by rw [← hgj]; exact none_in hnall
            refine WL.know 10 (.int .i64 (-1)) (x := (.int .i64 (idxF (fun x => sameW x (((l.getD i actE.dflt)).w)) (((rj.getD j standE.dflt)).ws)))) (by kernel_rfl) (congrArg (Value.int .i64) ex) ?_
            refine WL.q (.int .i64 (-1)) (by kernel_rfl) rfl (by kernel_rfl) (by kernel_rfl) ?_
            refine WL.q (.bool true) (by kernel_rfl) rfl (by kernel_rfl) (by kernel_rfl) ?_
            refine WL.nil ?_
            refine EX.then_code ?_
            refine CW.cond_t (by kernel_rfl) (by kernel_rfl) ?_
            refine CW.exit ?_
            refine EX.exit_then ?_
            refine EX.exit_here ?_
            refine EX.then_code ?_
            refine CW.region ?_
            refine WL.q (.int .i64 (j : Int)) (by kernel_rfl) rfl (by kernel_rfl) (by kernel_rfl) ?_
            refine WL.q (.int .i64 ((j + 1 : Nat) : Int)) (by kernel_rfl) rfl (by kernel_rfl) (q_int (x := IntKind.i64.wrap ((j : Int) + 1)) (by kernel_rfl) (wrap_to (by omega) (by omega) (by omega))) ?_
            refine WL.q (.int .i64 ((j + 1 : Nat) : Int)) (by kernel_rfl) rfl (by kernel_rfl) (by kernel_rfl) ?_
            refine WL.nil ?_
            have hlv : lostd (datW (((l.getD i actE.dflt)).w)) ((rw.map absS).getD j rowT0) = false := by unfold lostd; rw [decide_eq_false hnw]; rfl
            exact EX.then_loop ⟨j + 1, rj, os, ag, cg⟩ ⟨(by kernel_rfl), (by kernel_rfl), (by kernel_rfl), (by kernel_rfl), (by kernel_rfl), (by kernel_rfl), (lk_int (x := ((j + 1 : Nat) : Int)) (by kernel_rfl) (by first | omega | (dsimp only; omega) | rfl | (dsimp only; rfl))), trivial⟩ ⟨h260, M0_257, M1_257, (l257.trans l260), G260, o_row257, o_gone257, (all_up @standG.mono l260 g_row257), (by first | omega | assumption | (dsimp only [List.length_nil, List.length_append, List.length_cons]; omega)), hjl, (hrj.trans (cutJ_skip (by simpa using (show j < rw.length by omega)) hnw).symm), (by rw [hos]; exact gone_skip (by simpa using (show j < rw.length by omega)) hlv), (by first | omega | (simp only [List.length_append, List.length_cons, List.length_nil]; omega))⟩ (by first | omega | (dsimp only; omega))
           ·
            skip
            have hgj : absS (rj.getD j standE.dflt) = (rw.map absS).getD j rowT0 := by rw [← abs_getS (by omega), hrj, cutJ_at (by simpa using (show j < rw.length by omega))]
            have hyw : datW (((l.getD i actE.dflt)).w) ∈ ((rw.map absS).getD j rowT0).2.2 := by rw [← hgj]; exact one_in hx0 px0
            have hcj : (rj.getD j standE.dflt).ws.length ≤ (rj.getD j standE.dflt).c := (g_row257 _ (getD_mem (d := standE.dflt) (show j < rj.length by omega))).2.2
            refine WL.know 10 (.int .i64 (x0 : Int)) (x := (.int .i64 (idxF (fun x => sameW x (((l.getD i actE.dflt)).w)) (((rj.getD j standE.dflt)).ws)))) (by kernel_rfl) (congrArg (Value.int .i64) ex) ?_
            refine WL.q (.int .i64 (x0 : Int)) (by kernel_rfl) rfl (by kernel_rfl) (by kernel_rfl) ?_
            refine WL.q (.bool (decide ((x0 : Int) < 0))) (by kernel_rfl) rfl (by kernel_rfl) (by kernel_rfl) ?_
            refine WL.know 139 (.bool false) (x := (.bool (decide ((x0 : Int) < 0)))) (by kernel_rfl) (congrArg Value.bool (decide_eq_false (by omega))) ?_
            refine WL.nil ?_
            refine EX.then_code ?_
            refine CW.cond_f (by kernel_rfl) (by kernel_rfl) ?_
            refine CW.skip ?_
            refine EX.then_code ?_
            refine CW.cut (β := List StandD) (fun x_ => [(0, (.slice a l.length c)), (3, (.pointer (some ⟨t, 0, none⟩))), (4, (.slice ao rw.length co)), (5, (.int .i64 (i : Int))), (6, (.pointer (some ⟨b9, 0, none⟩))), (8, (.slice ag os.length cg)), (9, (.int .i64 (j : Int)))]) (fun x_ w_ => ∃ h_ M0_ M1_, (PH.le h260 h_) ∧ (Wld K w_ h_ M1_) ∧ (Own 43 standE M0_6 M0_ ao co x_) ∧ (Own 3 intE M0_ M1_ ag cg os) ∧ (∀ e_ ∈ x_, standG h_ e_) ∧ (∃ a3 c3, x_ = rj.set j (StandD.mk (rj.getD j standE.dflt).fact (rj.getD j standE.dflt).free a3 (([] ++ (rj.getD j standE.dflt).ws.take x0) ++ (rj.getD j standE.dflt).ws.drop (x0 + 1)) c3))) ?_ ?_
            ·
             skip
             refine CW.draw (by kernel_rfl) [(7, fun w_ => RS (PH.all w_) standE ao rj), (15, fun w_ => RS (PH.all w_) standE ao rj)] ?_
             refine DW.take (T := fun _ => True) 0 (.slice ao rw.length co) rfl (by kernel_rfl) rfl (by kernel_rfl) (.inl fun _ => trivial) (by kernel_rfl) (Deaf.thens (Deaf.block (Deaf.thens (Deaf.thens (Deaf.block (Deaf.thens (Deaf.block (Deaf.thens (Deaf.block (Deaf.thens (Deaf.thens (Deaf.block (Deaf.thens (Deaf.body RetM.not_panicked)))))))))))))) (fun w_ _ => (by kernel_rfl)) trivial ?_
             refine DW.take (T := fun _ => True) 1 (.int .i64 (j : Int)) rfl (by kernel_rfl) rfl (by kernel_rfl) (.inl fun _ => trivial) (by kernel_rfl) (Deaf.thens (Deaf.block (Deaf.thens (Deaf.thens (Deaf.block (Deaf.thens (Deaf.block (Deaf.thens (Deaf.block (Deaf.thens (Deaf.thens (Deaf.block (Deaf.thens (Deaf.body RetM.not_panicked)))))))))))))) (fun w_ _ => (by kernel_rfl)) trivial ?_
             refine DW.take (T := fun _ => True) 3 (.slice ao rw.length co) rfl (by kernel_rfl) rfl (by kernel_rfl) (.inl fun _ => trivial) (by kernel_rfl) (Deaf.thens (Deaf.block (Deaf.thens (Deaf.thens (Deaf.block (Deaf.thens (Deaf.block (Deaf.thens (Deaf.block (Deaf.thens (Deaf.thens (Deaf.block (Deaf.thens (Deaf.body RetM.not_panicked)))))))))))))) (fun w_ _ => (by kernel_rfl)) trivial ?_
             refine DW.take (T := fun _ => True) 4 (.int .i64 (j : Int)) rfl (by kernel_rfl) rfl (by kernel_rfl) (.inl fun _ => trivial) (by kernel_rfl) (Deaf.thens (Deaf.block (Deaf.thens (Deaf.thens (Deaf.block (Deaf.thens (Deaf.block (Deaf.thens (Deaf.block (Deaf.thens (Deaf.thens (Deaf.block (Deaf.thens (Deaf.body RetM.not_panicked)))))))))))))) (fun w_ _ => (by kernel_rfl)) trivial ?_
             refine DW.take (T := fun _ => True) 5 (eptr ao (j * standE.sz)) rfl (by kernel_rfl) rfl (by kernel_rfl) (.inl fun _ => trivial) (by kernel_rfl) (Deaf.thens (Deaf.block (Deaf.thens (Deaf.thens (Deaf.block (Deaf.thens (Deaf.block (Deaf.thens (Deaf.block (Deaf.thens (Deaf.thens (Deaf.block (Deaf.thens (Deaf.body RetM.not_panicked)))))))))))))) (fun w_ _ => (q_indexAddr (i := j) (E := standE) (xs := rj) (e := 43) (c := co) (k := .i64) (m := rw.length) (by omega) rfl (by kernel_rfl) (by kernel_rfl) (by kernel_rfl) (o_row257.reads.mono (o_gone257.le.trans (G260.drew).own)) (by omega))) trivial ?_
             refine DW.take (T := fun _ => True) 6 (eptr ao (j * standE.sz + 2)) rfl (by kernel_rfl) rfl (by kernel_rfl) (.inl fun _ => trivial) (by kernel_rfl) (Deaf.thens (Deaf.block (Deaf.thens (Deaf.thens (Deaf.block (Deaf.thens (Deaf.block (Deaf.thens (Deaf.block (Deaf.thens (Deaf.thens (Deaf.block (Deaf.thens (Deaf.body RetM.not_panicked)))))))))))))) (fun w_ _ => (q_fieldAddr_e (i := j) (k := j * standE.sz) (off := 2) rfl (by kernel_rfl) (by kernel_rfl) (o_row257.reads.mono (o_gone257.le.trans (G260.drew).own)) (by omega))) trivial ?_
             refine DW.take (T := fun w_ => RS (PH.all w_) standE ao rj) 7 (.slice (((rj.getD j standE.dflt)).a) (((rj.getD j standE.dflt)).ws.length) (((rj.getD j standE.dflt)).c)) rfl (by kernel_rfl) rfl (by kernel_rfl) (.inr (by first | exact .head _ | exact .tail _ (.head _) | exact .tail _ (.tail _ (.head _)) | exact .tail _ (.tail _ (.tail _ (.head _))) | simp)) (by kernel_rfl) (Deaf.thens (Deaf.block (Deaf.thens (Deaf.thens (Deaf.block (Deaf.thens (Deaf.block (Deaf.thens (Deaf.block (Deaf.thens (Deaf.thens (Deaf.block (Deaf.thens (Deaf.body RetM.not_panicked)))))))))))))) (fun w_ T_ => (q_load_e (i := j) (k := 2) (E := standE) rfl (by kernel_rfl) (by kernel_rfl) T_ (by omega) (by decide) (by kernel_rfl))) (o_row257.reads.mono (o_gone257.le.trans (G260.drew).own)) ?_
             refine DW.take (T := fun _ => True) 8 (.int .i64 (x0 : Int)) rfl (by kernel_rfl) rfl (by kernel_rfl) (.inl fun _ => trivial) (by kernel_rfl) (Deaf.thens (Deaf.block (Deaf.thens (Deaf.thens (Deaf.block (Deaf.thens (Deaf.block (Deaf.thens (Deaf.block (Deaf.thens (Deaf.thens (Deaf.block (Deaf.thens (Deaf.body RetM.not_panicked)))))))))))))) (fun w_ _ => (by kernel_rfl)) trivial ?_
             refine DW.take (T := fun _ => True) 9 (.slice (((rj.getD j standE.dflt)).a) ((((((rj.getD j standE.dflt)).ws).take x0)).length) (((rj.getD j standE.dflt)).c)) rfl (by kernel_rfl) rfl (by kernel_rfl) (.inl fun _ => trivial) (by kernel_rfl) (Deaf.thens (Deaf.block (Deaf.thens (Deaf.thens (Deaf.block (Deaf.thens (Deaf.block (Deaf.thens (Deaf.block (Deaf.thens (Deaf.thens (Deaf.block (Deaf.thens (Deaf.body RetM.not_panicked)))))))))))))) (fun w_ _ => (q_val (q_upto (e := 28) (sz := 3) (len := (((rj.getD j standE.dflt)).ws.length)) (cap := (((rj.getD j standE.dflt)).c)) (k := .i64) rfl (by kernel_rfl) (by kernel_rfl) (by kernel_rfl) (Nat.le_trans (show x0 ≤ (((rj.getD j standE.dflt)).ws).length by omega) (by omega))) (by rw [List.length_take, Nat.min_eq_left (by omega)]))) trivial ?_
             refine DW.take (T := fun _ => True) 11 (.slice ao rw.length co) rfl (by kernel_rfl) rfl (by kernel_rfl) (.inl fun _ => trivial) (by kernel_rfl) (Deaf.thens (Deaf.block (Deaf.thens (Deaf.thens (Deaf.block (Deaf.thens (Deaf.block (Deaf.thens (Deaf.block (Deaf.thens (Deaf.thens (Deaf.block (Deaf.thens (Deaf.body RetM.not_panicked)))))))))))))) (fun w_ _ => (by kernel_rfl)) trivial ?_
             refine DW.take (T := fun _ => True) 12 (.int .i64 (j : Int)) rfl (by kernel_rfl) rfl (by kernel_rfl) (.inl fun _ => trivial) (by kernel_rfl) (Deaf.thens (Deaf.block (Deaf.thens (Deaf.thens (Deaf.block (Deaf.thens (Deaf.block (Deaf.thens (Deaf.block (Deaf.thens (Deaf.thens (Deaf.block (Deaf.thens (Deaf.body RetM.not_panicked)))))))))))))) (fun w_ _ => (by kernel_rfl)) trivial ?_
             refine DW.take (T := fun _ => True) 13 (eptr ao (j * standE.sz)) rfl (by kernel_rfl) rfl (by kernel_rfl) (.inl fun _ => trivial) (by kernel_rfl) (Deaf.thens (Deaf.block (Deaf.thens (Deaf.thens (Deaf.block (Deaf.thens (Deaf.block (Deaf.thens (Deaf.block (Deaf.thens (Deaf.thens (Deaf.block (Deaf.thens (Deaf.body RetM.not_panicked)))))))))))))) (fun w_ _ => (q_indexAddr (i := j) (E := standE) (xs := rj) (e := 43) (c := co) (k := .i64) (m := rw.length) (by omega) rfl (by kernel_rfl) (by kernel_rfl) (by kernel_rfl) (o_row257.reads.mono (o_gone257.le.trans (G260.drew).own)) (by omega))) trivial ?_
             refine DW.take (T := fun _ => True) 14 (eptr ao (j * standE.sz + 2)) rfl (by kernel_rfl) rfl (by kernel_rfl) (.inl fun _ => trivial) (by kernel_rfl) (Deaf.thens (Deaf.block (Deaf.thens (Deaf.thens (Deaf.block (Deaf.thens (Deaf.block (Deaf.thens (Deaf.block (Deaf.thens (Deaf.thens (Deaf.block (Deaf.thens (Deaf.body RetM.not_panicked)))))))))))))) (fun w_ _ => (q_fieldAddr_e (i := j) (k := j * standE.sz) (off := 2) rfl (by kernel_rfl) (by kernel_rfl) (o_row257.reads.mono (o_gone257.le.trans (G260.drew).own)) (by omega))) trivial ?_
             refine DW.take (T := fun w_ => RS (PH.all w_) standE ao rj) 15 (.slice (((rj.getD j standE.dflt)).a) (((rj.getD j standE.dflt)).ws.length) (((rj.getD j standE.dflt)).c)) rfl (by kernel_rfl) rfl (by kernel_rfl) (.inr (by first | exact .head _ | exact .tail _ (.head _) | exact .tail _ (.tail _ (.head _)) | exact .tail _ (.tail _ (.tail _ (.head _))) | simp)) (by kernel_rfl) (Deaf.thens (Deaf.block (Deaf.thens (Deaf.thens (Deaf.block (Deaf.thens (Deaf.block (Deaf.thens (Deaf.block (Deaf.thens (Deaf.thens (Deaf.block (Deaf.thens (Deaf.body RetM.not_panicked)))))))))))))) (fun w_ T_ => (q_load_e (i := j) (k := 2) (E := standE) rfl (by kernel_rfl) (by kernel_rfl) T_ (by omega) (by decide) (by kernel_rfl))) (o_row257.reads.mono (o_gone257.le.trans (G260.drew).own)) ?_
             refine DW.take (T := fun _ => True) 16 (.int .i64 (x0 : Int)) rfl (by kernel_rfl) rfl (by kernel_rfl) (.inl fun _ => trivial) (by kernel_rfl) (Deaf.thens (Deaf.block (Deaf.thens (Deaf.thens (Deaf.block (Deaf.thens (Deaf.block (Deaf.thens (Deaf.block (Deaf.thens (Deaf.thens (Deaf.block (Deaf.thens (Deaf.body RetM.not_panicked)))))))))))))) (fun w_ _ => (by kernel_rfl)) trivial ?_
             refine DW.take (T := fun _ => True) 17 (.int .i64 ((x0 + 1 : Nat) : Int)) rfl (by kernel_rfl) rfl (by kernel_rfl) (.inl fun _ => trivial) (by kernel_rfl) (Deaf.thens (Deaf.block (Deaf.thens (Deaf.thens (Deaf.block (Deaf.thens (Deaf.block (Deaf.thens (Deaf.block (Deaf.thens (Deaf.thens (Deaf.block (Deaf.thens (Deaf.body RetM.not_panicked)))))))))))))) (fun w_ _ => (q_int (x := IntKind.i64.wrap ((x0 : Int) + 1)) (by kernel_rfl) (wrap_to (by omega) (by omega) (by omega)))) trivial ?_
             refine DW.take (T := fun _ => True) 18 (.slice (aft (((rj.getD j standE.dflt)).a) (((rj.getD j standE.dflt)).c) (x0 + 1) 3) ((((((rj.getD j standE.dflt)).ws).drop (x0 + 1))).length) ((((rj.getD j standE.dflt)).c) - (x0 + 1))) rfl (by kernel_rfl) rfl (by kernel_rfl) (.inl fun _ => trivial) (by kernel_rfl) (Deaf.thens (Deaf.block (Deaf.thens (Deaf.thens (Deaf.block (Deaf.thens (Deaf.block (Deaf.thens (Deaf.block (Deaf.thens (Deaf.thens (Deaf.block (Deaf.thens (Deaf.body RetM.not_panicked)))))))))))))) (fun w_ _ => (q_val (q_from (e := 28) (sz := 3) (len := (((rj.getD j standE.dflt)).ws.length)) (cap := (((rj.getD j standE.dflt)).c)) (lo := (x0 + 1)) (k := .i64) rfl (by kernel_rfl) (by kernel_rfl) (by kernel_rfl) (show (x0 + 1) ≤ (((rj.getD j standE.dflt)).ws.length) by omega)) (by rw [List.length_drop]))) trivial ?_
             refine DW.only 2 (by kernel_rfl) ?_
             refine DOp.ex rfl (by kernel_rfl) rfl (by kernel_rfl) (q_newB (ob := (.cells #[] 28 (0, 0))) (G260.drew) (fun b_ => .slice (some ⟨b_, 0, none⟩) 0 0) (fun u_ => by kernel_rfl)) (fun v_ w261 p_ => by obtain ⟨b261, M261, rfl, G261, B261, L261⟩ := p_; exact ⟨.inr (fun _ => (o_row257.reads.mono ((o_gone257.le.trans B261.le).trans G261.own))), .inr (fun _ => (o_row257.reads.mono ((o_gone257.le.trans B261.le).trans G261.own))), trivial⟩) ?_
             rintro _ w261 ⟨b261, M261, rfl, G261, B261, L261⟩
             have o261 : Own 28 whyE M1_257 M261 (some ⟨b261, 0, none⟩) 0 ([] : List _) := Own.lit2 B261 (by kernel_rfl) (by kernel_rfl) (by decide)
             have g261 : ∀ e_ ∈ ([] : List _), whyG h260 e_ := all_nil
             refine DW.only 10 (by kernel_rfl) ?_
             refine DOp.ex rfl (by kernel_rfl) rfl (by kernel_rfl) (q_app (e := 28) (bytes := 40) (cap := 0) (c2 := (((rj.getD j standE.dflt)).c)) (M0 := M1_257) (xs := ([] : List _)) (ys := ((((rj.getD j standE.dflt)).ws).take x0)) G261 o261 (((g_row257 (rj.getD j standE.dflt) (getD_mem (d := standE.dflt) (show j < rj.length from (by omega)))).1.upto x0).mono (l260.trans G261.imm)) rfl (by kernel_rfl) (by kernel_rfl) (by kernel_rfl) (by first | (simp [maxLen]; omega) | (simp only [maxLen, List.length_append, List.length_cons, List.length_nil]; omega) | (simp only [maxLen, List.length_append, List.length_nil]; omega) | (simp only [maxLen, List.length_append, List.length_cons, List.length_nil, List.length_take, List.length_drop]; omega) | (simp only [maxLen]; omega)) (by first | omega | (simp; omega) | (simp only [List.length_append, List.length_cons, List.length_nil]; omega) | (simp only [List.length_append, List.length_cons, List.length_nil, List.length_take, List.length_drop]; omega))) (fun v_ w262 p_ => by obtain ⟨a262, k262, M262, rfl, G262, o262, z262⟩ := p_; exact ⟨.inr (fun _ => (o_row257.reads.mono ((o_gone257.le.trans o262.le).trans G262.own))), .inr (fun _ => (o_row257.reads.mono ((o_gone257.le.trans o262.le).trans G262.own))), trivial⟩) ?_
             rintro _ w262 ⟨a262, k262, M262, rfl, G262, o262, z262⟩
             have g262 : ∀ e_ ∈ ([] ++ ((((rj.getD j standE.dflt)).ws).take x0)), whyG h260 e_ := all_app g261 (all_up @whyG.mono l260 (all_take (g_row257 (rj.getD j standE.dflt) (getD_mem (d := standE.dflt) (show j < rj.length from (by omega)))).2.1))
             refine DW.only 19 (by kernel_rfl) ?_
             refine DOp.ex rfl (by kernel_rfl) rfl (by kernel_rfl) (q_app (e := 28) (bytes := 40) (cap := k262) (c2 := ((((rj.getD j standE.dflt)).c) - (x0 + 1))) (M0 := M1_257) (xs := ([] ++ ((((rj.getD j standE.dflt)).ws).take x0))) (ys := ((((rj.getD j standE.dflt)).ws).drop (x0 + 1))) G262 o262 (((g_row257 (rj.getD j standE.dflt) (getD_mem (d := standE.dflt) (show j < rj.length from (by omega)))).1.aft (cap := (((rj.getD j standE.dflt)).c)) (show (x0 + 1) ≤ (((rj.getD j standE.dflt)).ws).length by omega) (by omega)).mono (l260.trans G262.imm)) rfl (by kernel_rfl) (by kernel_rfl) (by kernel_rfl) (by first | (simp [maxLen]; omega) | (simp only [maxLen, List.length_append, List.length_cons, List.length_nil]; omega) | (simp only [maxLen, List.length_append, List.length_nil]; omega) | (simp only [maxLen, List.length_append, List.length_cons, List.length_nil, List.length_take, List.length_drop]; omega) | (simp only [maxLen]; omega)) (by first | omega | (simp; omega) | (simp only [List.length_append, List.length_cons, List.length_nil]; omega) | (simp only [List.length_append, List.length_cons, List.length_nil, List.length_take, List.length_drop]; omega))) (fun v_ w263 p_ => by obtain ⟨a263, k263, M263, rfl, G263, o263, z263⟩ := p_; exact ⟨.inr (fun _ => (o_row257.reads.mono ((o_gone257.le.trans o263.le).trans G263.own))), .inr (fun _ => (o_row257.reads.mono ((o_gone257.le.trans o263.le).trans G263.own))), trivial⟩) ?_
             rintro _ w263 ⟨a263, k263, M263, rfl, G263, o263, z263⟩
             have g263 : ∀ e_ ∈ (([] ++ ((((rj.getD j standE.dflt)).ws).take x0)) ++ ((((rj.getD j standE.dflt)).ws).drop (x0 + 1))), whyG h260 e_ := all_app g262 (all_up @whyG.mono l260 (all_drop (g_row257 (rj.getD j standE.dflt) (getD_mem (d := standE.dflt) (show j < rj.length from (by omega)))).2.1))
             refine DW.take (T := fun _ => True) 20 (eptr ao (j * standE.sz)) rfl (by kernel_rfl) rfl (by kernel_rfl) (.inl fun _ => trivial) (by kernel_rfl) (Deaf.thens (Deaf.block (Deaf.thens (Deaf.thens (Deaf.block (Deaf.thens (Deaf.block (Deaf.thens (Deaf.block (Deaf.thens (Deaf.thens (Deaf.block (Deaf.thens (Deaf.body RetM.not_panicked)))))))))))))) (fun w_ _ => (q_indexAddr (i := j) (E := standE) (xs := rj) (e := 43) (c := co) (k := .i64) (m := rw.length) (by omega) rfl (by kernel_rfl) (by kernel_rfl) (by kernel_rfl) (o_row257.reads.mono ((o_gone257.le.trans o263.le).trans G263.own)) (by omega))) trivial ?_
             refine DW.take (T := fun _ => True) 21 (eptr ao (j * standE.sz + 2)) rfl (by kernel_rfl) rfl (by kernel_rfl) (.inl fun _ => trivial) (by kernel_rfl) (Deaf.thens (Deaf.block (Deaf.thens (Deaf.thens (Deaf.block (Deaf.thens (Deaf.block (Deaf.thens (Deaf.block (Deaf.thens (Deaf.thens (Deaf.block (Deaf.thens (Deaf.body RetM.not_panicked)))))))))))))) (fun w_ _ => (q_fieldAddr_e (i := j) (k := j * standE.sz) (off := 2) rfl (by kernel_rfl) (by kernel_rfl) (o_row257.reads.mono ((o_gone257.le.trans o263.le).trans G263.own)) (by omega))) trivial ?_
             refine DW.only 22 (by kernel_rfl) ?_
             have hcap_ := o263.cap_le
             obtain ⟨h264, l264, G264, r264⟩ := o263.freeze G263
             obtain ⟨N265, s266, s267⟩ : ∃ N_, Own 3 intE M0_6 N_ ag cg os ∧ Own 43 standE N_ M1_257 ao co rj := Ly.swap (Ly.own (E := standE) 43 ao co rj) (Ly.own (E := intE) 3 ag cg os) o_row257 o_gone257
             have hcl_ : ((rj.getD j standE.dflt)).ws.length ≤ ((rj.getD j standE.dflt)).c := (g_row257 _ (getD_mem (d := standE.dflt) (show j < rj.length from (by omega)))).2.2
             refine DOp.exu rfl (by kernel_rfl) rfl (by kernel_rfl) (q_storeF (v := (.slice a263 ((([] ++ ((((rj.getD j standE.dflt)).ws).take x0)) ++ ((((rj.getD j standE.dflt)).ws).drop (x0 + 1))).length) k263)) (xs := rj) (i := j) 2 (StandD.mk (((rj.getD j standE.dflt)).fact) (((rj.getD j standE.dflt)).free) a263 (([] ++ ((((rj.getD j standE.dflt)).ws).take x0)) ++ ((((rj.getD j standE.dflt)).ws).drop (x0 + 1))) k263) G264 s267 (by omega) (by decide) rfl (by kernel_rfl) (by kernel_rfl) (by kernel_rfl) rfl rfl rfl) (fun w268 p_ => by obtain ⟨M268, G268, o268⟩ := p_; exact ⟨.inl (by kernel_rfl), .inl (by kernel_rfl), trivial⟩) ?_
             rintro w268 ⟨M268, G268, o268⟩
             have g268 := all_set (i := j) (all_up @standG.mono (l260.trans l264) g_row257) (show standG h264 (StandD.mk (((rj.getD j standE.dflt)).fact) (((rj.getD j standE.dflt)).free) a263 (([] ++ ((((rj.getD j standE.dflt)).ws).take x0)) ++ ((((rj.getD j standE.dflt)).ws).drop (x0 + 1))) k263) from ⟨(r264.mono (PH.le_refl _)), (all_up @whyG.mono l264 g263), (by first | omega | (dsimp only; first | omega | assumption) | simp)⟩)
             refine DW.done (by kernel_rfl) ?_
             obtain ⟨N269, s270, s271⟩ : ∃ N_, Own 43 standE M0_6 N_ ao co (rj.set j (StandD.mk (((rj.getD j standE.dflt)).fact) (((rj.getD j standE.dflt)).free) a263 (([] ++ ((((rj.getD j standE.dflt)).ws).take x0)) ++ ((((rj.getD j standE.dflt)).ws).drop (x0 + 1))) k263)) ∧ Own 3 intE N_ M268 ag cg os := Ly.swap (Ly.own (E := intE) 3 ag cg os) (Ly.own (E := standE) 43 ao co (rj.set j (StandD.mk (((rj.getD j standE.dflt)).fact) (((rj.getD j standE.dflt)).free) a263 (([] ++ ((((rj.getD j standE.dflt)).ws).take x0)) ++ ((((rj.getD j standE.dflt)).ws).drop (x0 + 1))) k263))) s266 o268
             exact EX.then_cut (rj.set j (StandD.mk (((rj.getD j standE.dflt)).fact) (((rj.getD j standE.dflt)).free) a263 (([] ++ ((((rj.getD j standE.dflt)).ws).take x0)) ++ ((((rj.getD j standE.dflt)).ws).drop (x0 + 1))) k263)) ⟨(by kernel_rfl), (by kernel_rfl), (by kernel_rfl), (by kernel_rfl), (by kernel_rfl), (by kernel_rfl), (by kernel_rfl), trivial⟩ ⟨h264, N269, M268, l264, G268, s270, s271, g268, (⟨_, _, rfl⟩)⟩
            ·
             skip
             rintro rk w272 ⟨h272, M0_272, M1_272, l272, G272, o_row272, o_gone272, g_row272, hrk⟩
             try dsimp only at *
             obtain ⟨a3, c3, hrk⟩ := hrk
             have hkl : rk.length = rw.length := by rw [hrk, List.length_set]; exact hjl
             have hke : rk.getD j standE.dflt = (StandD.mk (rj.getD j standE.dflt).fact (rj.getD j standE.dflt).free a3 (([] ++ (rj.getD j standE.dflt).ws.take x0) ++ (rj.getD j standE.dflt).ws.drop (x0 + 1)) c3) := by rw [hrk]; exact getD_setS (by omega) _
             have hka : absS (rk.getD j standE.dflt) = cutA (datW (((l.getD i actE.dflt)).w)) ((rw.map absS).getD j rowT0) := by rw [hke, ← hgj]; unfold absS cutA; simp only [Prod.mk.injEq, true_and]; exact (cut_in (hdj _ (getD_mem (by omega))) hx0 px0).symm
             have hrkm : rk.map absS = CutJ (rw.map absS) (datW (((l.getD i actE.dflt)).w)) (j + 1) := by rw [cutJ_succ (by simpa using (show j < rw.length by omega)), ← hka, ← hrj, hke, hrk, map_setS]
             have hkf : (rk.getD j standE.dflt).fact = ((rw.map absS).getD j rowT0).1 := congrArg (·.1) hka
             refine CW.seq ?_
             refine CW.region ?_
             refine WL.q (.slice ao rw.length co) (by kernel_rfl) rfl (by kernel_rfl) (by kernel_rfl) ?_
             refine WL.q (.int .i64 (j : Int)) (by kernel_rfl) rfl (by kernel_rfl) (by kernel_rfl) ?_
             refine WL.q (eptr ao (j * standE.sz)) (by kernel_rfl) rfl (by kernel_rfl) (q_indexAddr (i := j) (E := standE) (xs := rk) (e := 43) (c := co) (k := .i64) (m := rw.length) (by omega) rfl (by kernel_rfl) (by kernel_rfl) (by kernel_rfl) (o_row272.reads.mono (o_gone272.le.trans G272.own)) (by omega)) ?_
             refine WL.q (eptr ao (j * standE.sz + 1)) (by kernel_rfl) rfl (by kernel_rfl) (q_fieldAddr_e (i := j) (k := j * standE.sz) (off := 1) rfl (by kernel_rfl) (by kernel_rfl) (o_row272.reads.mono (o_gone272.le.trans G272.own)) (by omega)) ?_
             refine WL.q (.bool (((rk.getD j standE.dflt)).free)) (by kernel_rfl) rfl (by kernel_rfl) (q_load_e (i := j) (k := 1) (E := standE) rfl (by kernel_rfl) (by kernel_rfl) (o_row272.reads.mono (o_gone272.le.trans G272.own)) (by omega) (by decide) (by kernel_rfl)) ?_
             refine WL.q (.bool (!(((rk.getD j standE.dflt)).free))) (by kernel_rfl) rfl (by kernel_rfl) (by kernel_rfl) ?_
             refine WL.q (.bool (!(((rk.getD j standE.dflt)).free))) (by kernel_rfl) rfl (by kernel_rfl) (by kernel_rfl) ?_
             rcases bool_cases (!(((rk.getD j standE.dflt)).free)) with c273 | c273
             ·
              skip
              have d274 := not_true c273
              refine WL.know 168 (.bool true) (x := .bool (!(((rk.getD j standE.dflt)).free))) (by kernel_rfl) (congrArg Value.bool c273) ?_
              refine WL.q (.slice ao rw.length co) (by kernel_rfl) rfl (by kernel_rfl) (by kernel_rfl) ?_
              refine WL.q (.int .i64 (j : Int)) (by kernel_rfl) rfl (by kernel_rfl) (by kernel_rfl) ?_
              refine WL.q (eptr ao (j * standE.sz)) (by kernel_rfl) rfl (by kernel_rfl) (q_indexAddr (i := j) (E := standE) (xs := rk) (e := 43) (c := co) (k := .i64) (m := rw.length) (by omega) rfl (by kernel_rfl) (by kernel_rfl) (by kernel_rfl) (o_row272.reads.mono (o_gone272.le.trans G272.own)) (by omega)) ?_
              refine WL.q (eptr ao (j * standE.sz + 2)) (by kernel_rfl) rfl (by kernel_rfl) (q_fieldAddr_e (i := j) (k := j * standE.sz) (off := 2) rfl (by kernel_rfl) (by kernel_rfl) (o_row272.reads.mono (o_gone272.le.trans G272.own)) (by omega)) ?_
              refine WL.q (.slice (((rk.getD j standE.dflt)).a) (((rk.getD j standE.dflt)).ws.length) (((rk.getD j standE.dflt)).c)) (by kernel_rfl) rfl (by kernel_rfl) (q_load_e (i := j) (k := 2) (E := standE) rfl (by kernel_rfl) (by kernel_rfl) (o_row272.reads.mono (o_gone272.le.trans G272.own)) (by omega) (by decide) (by kernel_rfl)) ?_
              refine WL.q (.int .i64 (((rk.getD j standE.dflt)).ws.length : Int)) (by kernel_rfl) rfl (by kernel_rfl) (by kernel_rfl) ?_
              refine WL.q (.bool (((((rk.getD j standE.dflt)).ws.length : Int) : Int) == 0)) (by kernel_rfl) rfl (by kernel_rfl) (by kernel_rfl) ?_
              refine WL.q (.bool (((((rk.getD j standE.dflt)).ws.length : Int) : Int) == 0)) (by kernel_rfl) rfl (by kernel_rfl) (by kernel_rfl) ?_
              refine WL.nil ?_
              refine EX.then_code ?_
              refine CW.cond (((((rk.getD j standE.dflt)).ws.length : Int) : Int) == 0) (by kernel_rfl) (by kernel_rfl) (fun c276 => ?_) (fun c276 => ?_)
              ·
               skip
               have d277 := eq_of_beq c276
               refine CW.region ?_
               refine WL.q (.slice ag os.length cg) (by kernel_rfl) rfl (by kernel_rfl) (by kernel_rfl) ?_
               refine WL.q (.slice ao rw.length co) (by kernel_rfl) rfl (by kernel_rfl) (by kernel_rfl) ?_
               refine WL.q (.int .i64 (j : Int)) (by kernel_rfl) rfl (by kernel_rfl) (by kernel_rfl) ?_
               refine WL.q (eptr ao (j * standE.sz)) (by kernel_rfl) rfl (by kernel_rfl) (q_indexAddr (i := j) (E := standE) (xs := rk) (e := 43) (c := co) (k := .i64) (m := rw.length) (by omega) rfl (by kernel_rfl) (by kernel_rfl) (by kernel_rfl) (o_row272.reads.mono (o_gone272.le.trans G272.own)) (by omega)) ?_
               refine WL.q (eptr ao (j * standE.sz + 0)) (by kernel_rfl) rfl (by kernel_rfl) (q_fieldAddr_e (i := j) (k := j * standE.sz) (off := 0) rfl (by kernel_rfl) (by kernel_rfl) (o_row272.reads.mono (o_gone272.le.trans G272.own)) (by omega)) ?_
               refine WL.q (.int .i64 (((rk.getD j standE.dflt)).fact)) (by kernel_rfl) rfl (by kernel_rfl) (q_load_e (i := j) (k := 0) (E := standE) rfl (by kernel_rfl) (by kernel_rfl) (o_row272.reads.mono (o_gone272.le.trans G272.own)) (by omega) (by decide) (by kernel_rfl)) ?_
               refine WL.ex (by kernel_rfl) rfl (by kernel_rfl) (q_newF (ob := (.cells #[(.int .i64 (((rk.getD j standE.dflt)).fact))] 3 (0, 0))) G272 (fun b_ => .slice (some ⟨b_, 0, none⟩) 1 1) (fun u_ => by kernel_rfl)) ?_
               rintro _ w278 ⟨b278, h278, rfl, l278, G278, hb278, L278⟩
               have r279 : RS h278 intE (some ⟨b278, 0, none⟩) [((rk.getD j standE.dflt)).fact] := RS.blk hb278 (by kernel_rfl)
               refine WL.ex (by kernel_rfl) rfl (by kernel_rfl) (q_app (e := 3) (bytes := 8) (cap := cg) (c2 := 1) (M0 := M0_272) (xs := os) (ys := ([((rk.getD j standE.dflt)).fact])) G278 o_gone272 (r279.mono ((PH.le_refl _).trans G278.imm)) rfl (by kernel_rfl) (by kernel_rfl) (by kernel_rfl) (by first | (simp [maxLen]; omega) | (simp only [maxLen, List.length_append, List.length_cons, List.length_nil]; omega) | (simp only [maxLen, List.length_append, List.length_nil]; omega) | (simp only [maxLen, List.length_append, List.length_cons, List.length_nil, List.length_take, List.length_drop]; omega) | (simp only [maxLen]; omega)) (by first | omega | (simp; omega) | (simp only [List.length_append, List.length_cons, List.length_nil]; omega) | (simp only [List.length_append, List.length_cons, List.length_nil, List.length_take, List.length_drop]; omega))) ?_
               rintro _ w280 ⟨a280, k280, M280, rfl, G280, o280, z280⟩
               refine WL.q (.slice a280 ((os ++ ([((rk.getD j standE.dflt)).fact])).length) k280) (by kernel_rfl) rfl (by kernel_rfl) (by kernel_rfl) ?_
               refine WL.nil ?_
               refine EX.in_block ?_
               refine EX.then_code ?_
               refine CW.region ?_
               refine WL.q (.int .i64 (j : Int)) (by kernel_rfl) rfl (by kernel_rfl) (by kernel_rfl) ?_
               refine WL.q (.int .i64 ((j + 1 : Nat) : Int)) (by kernel_rfl) rfl (by kernel_rfl) (q_int (x := IntKind.i64.wrap ((j : Int) + 1)) (by kernel_rfl) (wrap_to (by omega) (by omega) (by omega))) ?_
               refine WL.q (.int .i64 ((j + 1 : Nat) : Int)) (by kernel_rfl) rfl (by kernel_rfl) (by kernel_rfl) ?_
               refine WL.nil ?_
               have hlv : lostd (datW (((l.getD i actE.dflt)).w)) ((rw.map absS).getD j rowT0) = true := by unfold lostd standsA; rw [decide_eq_true hyw, ← hka]; unfold absS; simp only [List.length_map]; first | (rw [show (rk.getD j standE.dflt).free = false from by assumption, decide_eq_false (by omega)]; rfl) | (rw [show (rk.getD j standE.dflt).free = true from by assumption]; rfl) | (rw [show (rk.getD j standE.dflt).free = false from by assumption, decide_eq_true (by omega)]; rfl)
               exact EX.then_loop ⟨j + 1, rk, (os ++ ([((rk.getD j standE.dflt)).fact])), a280, k280⟩ ⟨(by kernel_rfl), (by kernel_rfl), (by kernel_rfl), (by kernel_rfl), (by kernel_rfl), (by kernel_rfl), (lk_int (x := ((j + 1 : Nat) : Int)) (by kernel_rfl) (by first | omega | (dsimp only; omega) | rfl | (dsimp only; rfl))), trivial⟩ ⟨h278, M0_272, M280, (((l257.trans l260).trans l272).trans l278), G280, o_row272, o280, (all_up @standG.mono l278 g_row272), (by first | omega | assumption | (dsimp only [List.length_nil, List.length_append, List.length_cons]; omega)), hkl, hrkm, (by rw [hos, hkf]; exact gone_succ (by simpa using (show j < rw.length by omega)) hlv), (by first | omega | (simp only [List.length_append, List.length_cons, List.length_nil]; omega))⟩ (by first | omega | (dsimp only; omega))
              ·
               skip
               have d281 := ne_of_beq_false c276
               refine CW.skip ?_
               refine EX.in_block ?_
               refine EX.then_code ?_
               refine CW.region ?_
               refine WL.q (.int .i64 (j : Int)) (by kernel_rfl) rfl (by kernel_rfl) (by kernel_rfl) ?_
               refine WL.q (.int .i64 ((j + 1 : Nat) : Int)) (by kernel_rfl) rfl (by kernel_rfl) (q_int (x := IntKind.i64.wrap ((j : Int) + 1)) (by kernel_rfl) (wrap_to (by omega) (by omega) (by omega))) ?_
               refine WL.q (.int .i64 ((j + 1 : Nat) : Int)) (by kernel_rfl) rfl (by kernel_rfl) (by kernel_rfl) ?_
               refine WL.nil ?_
               have hlv : lostd (datW (((l.getD i actE.dflt)).w)) ((rw.map absS).getD j rowT0) = false := by unfold lostd standsA; rw [decide_eq_true hyw, ← hka]; unfold absS; simp only [List.length_map]; first | (rw [show (rk.getD j standE.dflt).free = false from by assumption, decide_eq_false (by omega)]; rfl) | (rw [show (rk.getD j standE.dflt).free = true from by assumption]; rfl) | (rw [show (rk.getD j standE.dflt).free = false from by assumption, decide_eq_true (by omega)]; rfl)
               exact EX.then_loop ⟨j + 1, rk, os, ag, cg⟩ ⟨(by kernel_rfl), (by kernel_rfl), (by kernel_rfl), (by kernel_rfl), (by kernel_rfl), (by kernel_rfl), (lk_int (x := ((j + 1 : Nat) : Int)) (by kernel_rfl) (by first | omega | (dsimp only; omega) | rfl | (dsimp only; rfl))), trivial⟩ ⟨h272, M0_272, M1_272, ((l257.trans l260).trans l272), G272, o_row272, o_gone272, g_row272, (by first | omega | assumption | (dsimp only [List.length_nil, List.length_append, List.length_cons]; omega)), hkl, hrkm, (by rw [hos]; exact gone_skip (by simpa using (show j < rw.length by omega)) hlv), (by first | omega | (simp only [List.length_append, List.length_cons, List.length_nil]; omega))⟩ (by first | omega | (dsimp only; omega))
             ·
              skip
              have d282 := not_false c273
              refine WL.know 168 (.bool false) (x := .bool (!(((rk.getD j standE.dflt)).free))) (by kernel_rfl) (congrArg Value.bool c273) ?_
              refine WL.skip (by kernel_rfl) rfl (by kernel_rfl) ?_
              refine WL.skip (by kernel_rfl) rfl (by kernel_rfl) ?_
              refine WL.skip (by kernel_rfl) rfl (by kernel_rfl) ?_
              refine WL.skip (by kernel_rfl) rfl (by kernel_rfl) ?_
              refine WL.skip (by kernel_rfl) rfl (by kernel_rfl) ?_
              refine WL.skip (by kernel_rfl) rfl (by kernel_rfl) ?_
              refine WL.skip (by kernel_rfl) rfl (by kernel_rfl) ?_
              refine WL.q (.bool false) (by kernel_rfl) rfl (by kernel_rfl) (by kernel_rfl) ?_
              refine WL.nil ?_
              refine EX.then_code ?_
              refine CW.cond_f (by kernel_rfl) (by kernel_rfl) ?_
              refine CW.skip ?_
              refine EX.in_block ?_
              refine EX.then_code ?_
              refine CW.region ?_
              refine WL.q (.int .i64 (j : Int)) (by kernel_rfl) rfl (by kernel_rfl) (by kernel_rfl) ?_
              refine WL.q (.int .i64 ((j + 1 : Nat) : Int)) (by kernel_rfl) rfl (by kernel_rfl) (q_int (x := IntKind.i64.wrap ((j : Int) + 1)) (by kernel_rfl) (wrap_to (by omega) (by omega) (by omega))) ?_
              refine WL.q (.int .i64 ((j + 1 : Nat) : Int)) (by kernel_rfl) rfl (by kernel_rfl) (by kernel_rfl) ?_
              refine WL.nil ?_
              have hlv : lostd (datW (((l.getD i actE.dflt)).w)) ((rw.map absS).getD j rowT0) = false := by unfold lostd standsA; rw [decide_eq_true hyw, ← hka]; unfold absS; simp only [List.length_map]; first | (rw [show (rk.getD j standE.dflt).free = false from by assumption, decide_eq_false (by omega)]; rfl) | (rw [show (rk.getD j standE.dflt).free = true from by assumption]; rfl) | (rw [show (rk.getD j standE.dflt).free = false from by assumption, decide_eq_true (by omega)]; rfl)
              exact EX.then_loop ⟨j + 1, rk, os, ag, cg⟩ ⟨(by kernel_rfl), (by kernel_rfl), (by kernel_rfl), (by kernel_rfl), (by kernel_rfl), (by kernel_rfl), (lk_int (x := ((j + 1 : Nat) : Int)) (by kernel_rfl) (by first | omega | (dsimp only; omega) | rfl | (dsimp only; rfl))), trivial⟩ ⟨h272, M0_272, M1_272, ((l257.trans l260).trans l272), G272, o_row272, o_gone272, g_row272, (by first | omega | assumption | (dsimp only [List.length_nil, List.length_append, List.length_cons]; omega)), hkl, hrkm, (by rw [hos]; exact gone_skip (by simpa using (show j < rw.length by omega)) hlv), (by first | omega | (simp only [List.length_append, List.length_cons, List.length_nil]; omega))⟩ (by first | omega | (dsimp only; omega))
          ·
           skip
           have d284 := of_decide_eq_false c258
           refine CW.exit ?_
           refine EX.exit_then ?_
           refine EX.exit_then ?_
           refine EX.exit_here ?_
           refine EX.then_code ?_
           refine CW.seq ?_
           refine CW.region ?_
           refine WL.q (.pointer (some ⟨t, 0, none⟩)) (by kernel_rfl) rfl (by kernel_rfl) (by kernel_rfl) ?_
           refine WL.q (.pointer (some ⟨b9, 2, none⟩)) (by kernel_rfl) rfl (by kernel_rfl) (by kernel_rfl) ?_
           refine WL.q (.agg #[(.int .i64 ((((l.getD i actE.dflt)).w).rule)), (.int .i64 ((((l.getD i actE.dflt)).w).alt)), (.slice ((((l.getD i actE.dflt)).w).a) ((((l.getD i actE.dflt)).w).facts.length) ((((l.getD i actE.dflt)).w).c))]) (by kernel_rfl) rfl (by kernel_rfl) (q_loadAgg (off := 2) (vs := [(.int .i64 ((((l.getD i actE.dflt)).w).rule)), (.int .i64 ((((l.getD i actE.dflt)).w).alt)), (.slice ((((l.getD i actE.dflt)).w).a) ((((l.getD i actE.dflt)).w).facts.length) ((((l.getD i actE.dflt)).w).c))]) rfl (by kernel_rfl) (by kernel_rfl) (G257.imm _ _ ((l21.trans l257) _ _ hb11)) (agg_at (by kernel_rfl))) ?_
           obtain ⟨N285, s286, s287⟩ : ∃ N_, Own 43 standE M N_ ao co rj ∧ TabA h6 t (rw.map absS) cm i N_ M0_257 := Ly.swap (lyTabA h6 t (rw.map absS) cm i) (Ly.own (E := standE) 43 ao co rj) o_tab6 o_row257
           obtain ⟨N288, s289, s290⟩ : ∃ N_, Own 3 intE N285 N_ ag cg os ∧ TabA h6 t (rw.map absS) cm i N_ M1_257 := Ly.swap (lyTabA h6 t (rw.map absS) cm i) (Ly.own (E := intE) 3 ag cg os) s287 o_gone257
           have hjj : j = rw.length := by omega
           have hnT : ((rw.map absS).map (·.1)).Nodup := (s290.ok).1
           refine WL.call (by kernel_rfl) rfl (by kernel_rfl) (by kernel_rfl) (loseA_spec G257 (TabA.mono ((l11.trans l21).trans l257) s290) (by omega) (y := (((l.getD i actE.dflt)).w)) (show whyG h257 (((l.getD i actE.dflt)).w) from ⟨(Gl _ (getD_mem (d := actE.dflt) (show i < l.length by omega))).mono (((((l1.trans l5).trans l6).trans l11).trans l21).trans l257), by omega⟩)) (RetM.elim ?_)
           rintro w291 h291 M291 _ l291 G291 ⟨a291, os291, rfl, r291, qo291, A291⟩
           have hoe : os291 = sortInts os := by rw [qo291, lost_sort hnT, hos, hjj]; congr 3; rw [show rw.length = (rw.map absS).length by simp, List.take_length]
           refine WL.q (.slice a291 os291.length os291.length) (by kernel_rfl) rfl (by kernel_rfl) (by kernel_rfl) ?_
           refine WL.nil ?_
           refine EX.then_code ?_
           refine CW.seq ?_
           refine CW.region ?_
           refine WL.q (.slice a291 os291.length os291.length) (by kernel_rfl) rfl (by kernel_rfl) (by kernel_rfl) ?_
           refine WL.q (.slice ag os.length cg) (by kernel_rfl) rfl (by kernel_rfl) (by kernel_rfl) ?_
           have hol2 : os.length ≤ 1000 := by omega
           obtain ⟨N292, s293, s294⟩ : ∃ N_, TabA h291 t ((rw.map absS).map (cutA (datW (((l.getD i actE.dflt)).w)))) (sweepA ((rw.map absS).map (cutA (datW (((l.getD i actE.dflt)).w)))) cm) i N285 N_ ∧ Own 3 intE N_ M291 ag cg os := Ly.swap (Ly.own (E := intE) 3 ag cg os) (lyTabA h291 t ((rw.map absS).map (cutA (datW (((l.getD i actE.dflt)).w)))) (sweepA ((rw.map absS).map (cutA (datW (((l.getD i actE.dflt)).w)))) cm) i) s289 A291
           obtain ⟨h295, l295, G295, r295⟩ := s294.freeze G291
           refine WL.call (by kernel_rfl) rfl (by kernel_rfl) (by kernel_rfl) (rising_spec (l := os) (c := cg) G295 (r295.mono (PH.le_refl _)) hol2) (Ret.elim ?_)
           rintro w296 h296 _ l296 G296 ⟨a296, c296, rfl, r296⟩
           refine WL.call (by kernel_rfl) rfl (by kernel_rfl) (by kernel_rfl) (cmpL_spec (xs := os291) (ys := (sortInts os)) (cx := os291.length) (cy := c296) G296 (r291.mono (l295.trans l296)) (r296.mono (PH.le_refl _)) (by rw [hoe, sortInts_len]; omega)) (Ret.elim ?_)
           rintro w297 h297 _ l297 G297 rfl
           refine WL.q (.bool (((cmpL os291 (sortInts os)) : Int) != 0)) (by kernel_rfl) rfl (by kernel_rfl) (by kernel_rfl) ?_
           refine WL.know 193 (.bool false) (x := (.bool (((cmpL os291 (sortInts os)) : Int) != 0))) (by kernel_rfl) (congrArg Value.bool (bne_eq_false_iff_eq.2 (by exact cmpL_zero.2 hoe))) ?_
           refine WL.nil ?_
           refine EX.then_code ?_
           refine CW.cond_f (by kernel_rfl) (by kernel_rfl) ?_
           refine CW.skip ?_
           refine EX.in_block ?_
           have hrs : rj.map absS = ((rw.map absS).map (cutA (datW (((l.getD i actE.dflt)).w)))) := by rw [hrj, hjj, show rw.length = (rw.map absS).length by simp, cutJ_end]
           have hokn : DsOk (rj.map absS) (sweepA ((rw.map absS).map (cutA (datW (((l.getD i actE.dflt)).w)))) cm) := DsOk.cast hrs.symm (hok.lose _)
           have Bt : TabA h297 t (rj.map absS) (sweepA ((rw.map absS).map (cutA (datW (((l.getD i actE.dflt)).w)))) cm) (i + 1) N285 N292 := TabA.cast hrs.symm rfl (TabA.up (by omega) (TabA.mono ((l295.trans l296).trans l297) s293))
           obtain ⟨N298, s299, s300⟩ : ∃ N_, TabA h297 t (rj.map absS) (sweepA ((rw.map absS).map (cutA (datW (((l.getD i actE.dflt)).w)))) cm) (i + 1) M N_ ∧ Own 43 standE N_ N292 ao co rj := Ly.swap (Ly.own (E := standE) 43 ao co rj) (lyTabA h297 t (rj.map absS) (sweepA ((rw.map absS).map (cutA (datW (((l.getD i actE.dflt)).w)))) cm) (i + 1)) s286 Bt
           exact EX.then_cut ⟨rj, ao, co, (sweepA ((rw.map absS).map (cutA (datW (((l.getD i actE.dflt)).w)))) cm)⟩ ⟨(by kernel_rfl), (by kernel_rfl), (lk_val (x := (.slice ao rw.length co)) (by kernel_rfl) (by rw [hjl])), (by kernel_rfl), trivial⟩ ⟨h297, N298, N292, ((((l257.trans l291).trans l295).trans l296).trans l297), G297, s299, s300, (all_up @standG.mono (((l291.trans l295).trans l296).trans l297) g_row257), hokn⟩
         ·
          skip
          have d301 := ne_of_beq_false c255
          refine CW.skip ?_
          refine EX.in_block ?_
          have hrs : rw.map absS = (rw.map absS) := rfl
          have hokn : DsOk (rw.map absS) cm := DsOk.cast hrs.symm (hok)
          have Bt : TabA h21 t (rw.map absS) cm (i + 1) M M0_6 := TabA.cast hrs.symm rfl (TabA.up (by omega) (TabA.mono (l11.trans l21) o_tab6))
          exact EX.then_cut ⟨rw, ao, co, cm⟩ ⟨(by kernel_rfl), (by kernel_rfl), (by kernel_rfl), (by kernel_rfl), trivial⟩ ⟨h21, M0_6, M1_6, (PH.le_refl _), G21, Bt, o_row6, (all_up @standG.mono (l11.trans l21) g_row6), hokn⟩
     ·
      skip
      rintro ⟨rw2, ao2, co2, cm2⟩ w302 ⟨h302, M0_302, M1_302, l302, G302, o_tab302, o_row302, g_row302, hok2⟩
      try dsimp only at *
      refine CW.seq ?_
      refine CW.region ?_
      refine WL.q (.pointer (some ⟨t, 0, none⟩)) (by kernel_rfl) rfl (by kernel_rfl) (by kernel_rfl) ?_
      refine WL.q (.slice ao2 rw2.length co2) (by kernel_rfl) rfl (by kernel_rfl) (by kernel_rfl) ?_
      refine WL.call (by kernel_rfl) rfl (by kernel_rfl) (by kernel_rfl) (tell_spec G302 o_tab302 o_row302.le (by omega) o_row302 (PH.le_refl _) g_row302 rfl hok2.1) (Ret.elim ?_)
      rintro w303 h303 _ l303 G303 rfl
      refine WL.q (.bool false) (by kernel_rfl) rfl (by kernel_rfl) (by kernel_rfl) ?_
      refine WL.nil ?_
      refine EX.then_code ?_
      refine CW.cond_f (by kernel_rfl) (by kernel_rfl) ?_
      refine CW.skip ?_
      refine EX.in_block ?_
      refine EX.then_code ?_
      refine CW.region ?_
      refine WL.q (.int .i64 (i : Int)) (by kernel_rfl) rfl (by kernel_rfl) (by kernel_rfl) ?_
      refine WL.q (.int .i64 ((i + 1 : Nat) : Int)) (by kernel_rfl) rfl (by kernel_rfl) (q_int (x := IntKind.i64.wrap ((i : Int) + 1)) (by kernel_rfl) (wrap_to (by omega) (by omega) (by omega))) ?_
      refine WL.q (.int .i64 ((i + 1 : Nat) : Int)) (by kernel_rfl) rfl (by kernel_rfl) (by kernel_rfl) ?_
      refine WL.nil ?_
      exact EX.then_loop ⟨i + 1, rw2, ao2, co2, cm2⟩ ⟨(by kernel_rfl), (by kernel_rfl), (by kernel_rfl), (lk_int (x := ((i + 1 : Nat) : Int)) (by kernel_rfl) (by first | omega | (dsimp only; omega) | rfl | (dsimp only; rfl))), trivial⟩ ⟨h303, M0_302, M1_302, ((((l6.trans l11).trans l21).trans l302).trans l303), G303, (TabA.mono l303 o_tab302), o_row302, (all_up @standG.mono l303 g_row302), (by first | omega | assumption | (dsimp only [List.length_nil, List.length_append, List.length_cons]; omega)), hok2⟩ (by first | omega | (dsimp only; omega))
  ·
   skip
   have d304 := of_decide_eq_false c7
   refine CW.exit ?_
   refine EX.exit_then ?_
   refine EX.exit_then ?_
   refine EX.exit_here ?_
   refine EX.then_code ?_
   refine CW.seq ?_
   refine CW.region ?_
   refine WL.q (.bool true) (by kernel_rfl) rfl (by kernel_rfl) (by kernel_rfl) ?_
   refine WL.nil ?_
   refine EX.then_code ?_
   refine CW.ret ?_
   refine EX.ret1 (v := (.bool true)) rfl (by kernel_rfl) ?_
   obtain ⟨N305, s306, s307⟩ : ∃ N_, Own 43 standE M N_ ao co rw ∧ TabA h6 t (rw.map absS) cm i N_ M1_6 := Ly.swap (lyTabA h6 t (rw.map absS) cm i) (Ly.own (E := standE) 43 ao co rw) o_tab6 o_row6
   obtain ⟨N308, s309, s310⟩ : ∃ N_, TabA h6 t (rw.map absS) cm i M N_ ∧ Own 43 standE N_ M1_6 ao co rw := Ly.swap (Ly.own (E := standE) 43 ao co rw) (lyTabA h6 t (rw.map absS) cm i) s306 s307
   exact Ret.mk ((l1.trans l5).trans l6) (G6.drop ((Ly.le (lyTabA h6 t (rw.map absS) cm i) s309).trans s310.le)) rfl
end Go.Proofs
