import Derived.Test.YthlcldgcjilfcaaW4
namespace Go.Proofs
open Go Go.Wk
abbrev whyP : Enc WhyD := whyE
/-- Its facts stand there, however many. -/
def whyR (h : PH) (f : WhyD) : Prop := RS h intE f.a f.facts
theorem whyR.mono {h h' : PH} (hl : PH.le h h') (f : WhyD) (g : whyR h f) : whyR h' f := RS.mono g hl
/-- The one row of the play, of which fact 5 is. -/
def dsO (i : Nat) (cm : List WD) : List RowT := if i = 0 then [] else [(5, false, cm)]
theorem dsO_of {i : Nat} {cm : List WD} (h : i = 0 → cm = []) : OfA (dsO i cm) 5 [(5, false, cm)] 0 := by
  unfold dsO
  split
  · rename_i hi; rw [h hi]; exact .inr ⟨by simp, rfl, rfl⟩
  · exact .inl ⟨rfl, by simp, rfl⟩
def addC (cm : List WD) (w : WD) : List WD := if w ∈ cm then cm else cm ++ [w]
theorem addC_pos (cm : List WD) (w : WD) : 0 < (addC cm w).length := by
  unfold addC
  split
  · rename_i h; exact List.length_pos_of_mem h
  · simp
theorem dsO_sup (i : Nat) (cm : List WD) (w : WD) : supA [(5, false, cm)] 0 w = dsO (i + 1) (addC cm w) := by
  unfold supA dsO addC
  rw [if_neg (by omega : ¬ i + 1 = 0)]
  simp only [List.getD_cons_zero]
  split <;> rfl
theorem dsO_supC (cm : List WD) (w : WD) : supC [(5, false, cm)] 0 cm w = addC cm w := by
  unfold supC addC
  simp only [List.getD_cons_zero]
  split <;> simp_all

theorem findO_spec {K : Key} {w : World} {h M : PH} (G : Wld K w h M) {a : Option Addr} {l : List WhyD} {c : Nat} (Hl : RS M whyE a l) (Gl : ∀ x ∈ l, whyG h x) (hb : l.length ≤ 1000000) {y : WhyD} (gy : whyG h y) :
    Calls Try.prog 8 #[.slice a l.length c, .agg (whyE.enc y).toArray] w (Ret K h M fun _ v => v = .int .i64 (idxF (fun x => sameW x y) l)) := by
  refine enter (l := [(.slice a l.length c), (.agg #[(.int .i64 ((y).rule)), (.int .i64 ((y).alt)), (.slice ((y).a) ((y).facts.length) ((y).c))])]) Try.func8 rfl Try.ntmps8 (Nat.le_of_ble_eq_true rfl) ?_
  simp only [params]
  refine CW.seq ?_
  refine CW.region ?_
  refine WL.ex (by kernel_rfl) rfl (by kernel_rfl) (q_newF (ob := (.cells #[(.int .i64 ((y).rule)), (.int .i64 ((y).alt)), (.slice ((y).a) ((y).facts.length) ((y).c))] 28 (0, 0))) G (fun b_ => .pointer (some ⟨b_, 0, none⟩)) (fun u_ => by kernel_rfl)) ?_
  rintro _ w1 ⟨b1, h1, rfl, l1, G1, hb1, L1⟩
  refine WL.q (.int .i64 0) (by kernel_rfl) rfl (by kernel_rfl) (by kernel_rfl) ?_
  refine WL.nil ?_
  refine EX.then_code ?_
  refine CW.seq ?_
  refine CW.seq ?_
  refine CW.region ?_
  refine WL.q (.int .i64 0) (by kernel_rfl) rfl (by kernel_rfl) (by kernel_rfl) ?_
  refine WL.nil ?_
  refine EX.then_code ?_
  refine CW.block ?_
  refine CW.loop (β := Nat) (fun x_ => [(0, (.slice a l.length c)), (3, (.pointer (some ⟨b1, 0, none⟩))), (5, (.int .i64 (x_ : Int)))]) (fun x_ w_ => ∃ h_, (PH.le h1 h_) ∧ (Wld K w_ h_ M) ∧ (x_ ≤ l.length) ∧ (∀ j < x_, (fun x => sameW x y) (l.getD j whyE.dflt) = false)) (fun x_ => l.length - x_) 0 ⟨(by kernel_rfl), (by kernel_rfl), (lk_int (x := 0) (by kernel_rfl) (by first | omega | (dsimp only; omega) | rfl | (dsimp only; rfl))), trivial⟩ ⟨h1, (PH.le_refl _), G1, (by first | omega | assumption | (dsimp only [List.length_nil, List.length_append, List.length_cons]; omega)), (by simp)⟩ ?_
  rintro k w2 ⟨h2, l2, G2, hk, hn⟩
  try dsimp only at *
  refine CW.seq ?_
  refine CW.seq ?_
  refine CW.region ?_
  refine WL.q (.int .i64 (k : Int)) (by kernel_rfl) rfl (by kernel_rfl) (by kernel_rfl) ?_
  refine WL.q (.slice a l.length c) (by kernel_rfl) rfl (by kernel_rfl) (by kernel_rfl) ?_
  refine WL.q (.int .i64 (l.length : Int)) (by kernel_rfl) rfl (by kernel_rfl) (by kernel_rfl) ?_
  refine WL.q (.bool (decide ((k : Int) < (l.length : Int)))) (by kernel_rfl) rfl (by kernel_rfl) (by kernel_rfl) ?_
  refine WL.nil ?_
  refine EX.then_code ?_
  refine CW.cond (decide ((k : Int) < (l.length : Int))) (by kernel_rfl) (by kernel_rfl) (fun c3 => ?_) (fun c3 => ?_)
  ·
    skip
    have d4 := of_decide_eq_true c3
    refine CW.skip ?_
    refine EX.then_code ?_
    refine CW.seq ?_
    refine CW.block ?_
    refine CW.seq ?_
    refine CW.draw (by kernel_rfl) [(3, fun w_ => RS (PH.all w_) whyE a l), (4, fun w_ => PH.all w_ b1 = some (.cells #[(.int .i64 ((y).rule)), (.int .i64 ((y).alt)), (.slice ((y).a) ((y).facts.length) ((y).c))] 28 (0, 0)))] ?_
    refine DW.take (T := fun _ => True) 0 (.slice a l.length c) rfl (by kernel_rfl) rfl (by kernel_rfl) (.inl fun _ => trivial) (by kernel_rfl) (Deaf.thens (Deaf.block (Deaf.thens (Deaf.thens (Deaf.block (Deaf.thens (Deaf.body RetM.not_panicked))))))) (fun w_ _ => (by kernel_rfl)) trivial ?_
    refine DW.take (T := fun _ => True) 1 (.int .i64 (k : Int)) rfl (by kernel_rfl) rfl (by kernel_rfl) (.inl fun _ => trivial) (by kernel_rfl) (Deaf.thens (Deaf.block (Deaf.thens (Deaf.thens (Deaf.block (Deaf.thens (Deaf.body RetM.not_panicked))))))) (fun w_ _ => (by kernel_rfl)) trivial ?_
    refine DW.take (T := fun _ => True) 2 (eptr a (k * whyE.sz)) rfl (by kernel_rfl) rfl (by kernel_rfl) (.inl fun _ => trivial) (by kernel_rfl) (Deaf.thens (Deaf.block (Deaf.thens (Deaf.thens (Deaf.block (Deaf.thens (Deaf.body RetM.not_panicked))))))) (fun w_ _ => (q_indexAddr (i := k) (E := whyE) (xs := l) (e := 28) (c := c) (k := .i64) (m := l.length) rfl rfl (by kernel_rfl) (by kernel_rfl) (by kernel_rfl) (Hl.mono (G2.drew).own) (by omega))) trivial ?_
    refine DW.take (T := fun w_ => RS (PH.all w_) whyE a l) 3 (.agg #[(.int .i64 (((l.getD k whyE.dflt)).rule)), (.int .i64 (((l.getD k whyE.dflt)).alt)), (.slice (((l.getD k whyE.dflt)).a) (((l.getD k whyE.dflt)).facts.length) (((l.getD k whyE.dflt)).c))]) rfl (by kernel_rfl) rfl (by kernel_rfl) (.inr (by first | exact .head _ | exact .tail _ (.head _) | exact .tail _ (.tail _ (.head _)) | exact .tail _ (.tail _ (.tail _ (.head _))) | simp)) (by kernel_rfl) (Deaf.thens (Deaf.block (Deaf.thens (Deaf.thens (Deaf.block (Deaf.thens (Deaf.body RetM.not_panicked))))))) (fun w_ T_ => (q_val (q_loadAgg_e (i := k) (E := whyE) rfl (by kernel_rfl) (by kernel_rfl) T_ (by omega)) (by kernel_rfl))) (Hl.mono (G2.drew).own) ?_
    refine DW.take (T := fun w_ => PH.all w_ b1 = some (.cells #[(.int .i64 ((y).rule)), (.int .i64 ((y).alt)), (.slice ((y).a) ((y).facts.length) ((y).c))] 28 (0, 0))) 4 (.agg #[(.int .i64 ((y).rule)), (.int .i64 ((y).alt)), (.slice ((y).a) ((y).facts.length) ((y).c))]) rfl (by kernel_rfl) rfl (by kernel_rfl) (.inr (by first | exact .head _ | exact .tail _ (.head _) | exact .tail _ (.tail _ (.head _)) | exact .tail _ (.tail _ (.tail _ (.head _))) | simp)) (by kernel_rfl) (Deaf.thens (Deaf.block (Deaf.thens (Deaf.thens (Deaf.block (Deaf.thens (Deaf.body RetM.not_panicked))))))) (fun w_ T_ => (q_loadAgg (off := 0) (vs := [(.int .i64 ((y).rule)), (.int .i64 ((y).alt)), (.slice ((y).a) ((y).facts.length) ((y).c))]) rfl (by kernel_rfl) (by kernel_rfl) T_ (agg_at (by kernel_rfl)))) ((G2.drew).imm _ _ (l2 _ _ hb1)) ?_
    refine DW.only 5 (by kernel_rfl) ?_
    refine DOp.call rfl (by kernel_rfl) rfl (by kernel_rfl) (by kernel_rfl) (sameL_spec (x := (l.getD k whyE.dflt)) (y := y) (G2.drew) (whyG.mono (l1.trans l2) _ (Gl _ (getD_mem (d := whyE.dflt) (by omega)))) (whyG.mono (l1.trans l2) _ gy)) (Ret.elimD (fun w5 h5 l5 G5 => ⟨.inl (by kernel_rfl), .inl (by kernel_rfl), trivial⟩) ?_)
    rintro w5 h5 _ l5 G5 rfl
    refine DW.done (by kernel_rfl) ?_
    refine EX.then_code ?_
    refine CW.cond (sameW (l.getD k whyE.dflt) y) (by kernel_rfl) (by kernel_rfl) (fun c6 => ?_) (fun c6 => ?_)
    ·
      skip
      refine CW.seq ?_
      refine CW.region ?_
      refine WL.q (.int .i64 (k : Int)) (by kernel_rfl) rfl (by kernel_rfl) (by kernel_rfl) ?_
      refine WL.q (.int .i64 (k : Int)) (by kernel_rfl) rfl (by kernel_rfl) (by kernel_rfl) ?_
      refine WL.nil ?_
      refine EX.then_code ?_
      refine CW.ret ?_
      refine EX.ret_block ?_
      refine EX.ret_then ?_
      refine EX.ret_then ?_
      refine EX.ret_block ?_
      refine EX.ret_then ?_
      refine EX.ret1 (v := (.int .i64 (k : Int))) rfl (by kernel_rfl) ?_
      exact Ret.mk ((l1.trans l2).trans l5) G5 (congrArg (Value.int .i64) ((idxF_some (d := whyE.dflt) (by omega) hn (by assumption)).symm))
    ·
      skip
      refine CW.skip ?_
      refine EX.in_block ?_
      refine EX.then_code ?_
      refine CW.region ?_
      refine WL.q (.int .i64 (k : Int)) (by kernel_rfl) rfl (by kernel_rfl) (by kernel_rfl) ?_
      refine WL.q (.int .i64 ((k + 1 : Nat) : Int)) (by kernel_rfl) rfl (by kernel_rfl) (q_int (x := IntKind.i64.wrap ((k : Int) + 1)) (by kernel_rfl) (wrap_to (by omega) (by omega) (by omega))) ?_
      refine WL.q (.int .i64 ((k + 1 : Nat) : Int)) (by kernel_rfl) rfl (by kernel_rfl) (by kernel_rfl) ?_
      refine WL.nil ?_
      exact EX.then_loop (k + 1) ⟨(by kernel_rfl), (by kernel_rfl), (lk_int (x := ((k + 1 : Nat) : Int)) (by kernel_rfl) (by first | omega | (dsimp only; omega) | rfl | (dsimp only; rfl))), trivial⟩ ⟨h5, (l2.trans l5), G5, (by first | omega | assumption | (dsimp only [List.length_nil, List.length_append, List.length_cons]; omega)), (fun j hj => by rcases Nat.lt_or_ge j k with q | q; (exact hn j q); (obtain rfl : j = k := by omega); assumption)⟩ (by first | omega | (dsimp only; omega))
  ·
    skip
    have d9 := of_decide_eq_false c3
    refine CW.exit ?_
    refine EX.exit_then ?_
    refine EX.exit_then ?_
    refine EX.exit_here ?_
    refine EX.then_code ?_
    refine CW.seq ?_
    refine CW.region ?_
    refine WL.q (.int .i64 (-1)) (by kernel_rfl) rfl (by kernel_rfl) (by kernel_rfl) ?_
    refine WL.nil ?_
    refine EX.then_code ?_
    refine CW.ret ?_
    refine EX.ret1 (v := (.int .i64 (-1))) rfl (by kernel_rfl) ?_
    exact Ret.mk (l1.trans l2) G2 (congrArg (Value.int .i64) ((idxF_none (d := whyE.dflt) (fun j hj => hn j (by omega))).symm))

theorem idx_no' {l : List WhyD} {y : WhyD} (h : datW y ∉ l.map datW) : ¬ 0 ≤ idxF (fun x => sameW x y) l := idx_no h

theorem order_spec {K : Key} {w : World} {h M : PH} (G : Wld K w h M) {a : Option Addr} {l : List WhyD} {c : Nat} (Hl : RS h whyP a l) (Gl : ∀ x ∈ l, whyR h x) (hc : l.length ≤ 9223372036854775807) (hfl : ∀ x ∈ l, x.facts.length ≤ 9223372036854775807) :
    Calls Try.prog 3 #[.slice a l.length c] w (Ret K h M fun _ v => v = .bool true) := by
  refine enter (l := [(.slice a l.length c)]) Try.func3 rfl Try.ntmps3 (Nat.le_of_ble_eq_true rfl) ?_
  simp only [params]
  refine CW.seq ?_
  refine CW.region ?_
  refine WL.q (.bool false) (by kernel_rfl) rfl (by kernel_rfl) (by kernel_rfl) ?_
  refine WL.nil ?_
  refine EX.then_code ?_
  refine CW.seq ?_
  refine CW.seq ?_
  refine CW.region ?_
  refine WL.call (by kernel_rfl) rfl (by kernel_rfl) (by kernel_rfl) (known_spec G) (Ret.elim ?_)
  rintro w10 h10 _ l10 G10 rfl
  refine WL.q (.bool false) (by kernel_rfl) rfl (by kernel_rfl) (by kernel_rfl) ?_
  refine WL.nil ?_
  refine EX.then_code ?_
  refine CW.cond_f (by kernel_rfl) (by kernel_rfl) ?_
  refine CW.skip ?_
  refine EX.then_code ?_
  refine CW.seq ?_
  refine CW.seq ?_
  refine CW.region ?_
  refine WL.q (.slice a l.length c) (by kernel_rfl) rfl (by kernel_rfl) (by kernel_rfl) ?_
  refine WL.q (.int .i64 (l.length : Int)) (by kernel_rfl) rfl (by kernel_rfl) (by kernel_rfl) ?_
  refine WL.q (.bool (decide ((l.length : Int) > 60))) (by kernel_rfl) rfl (by kernel_rfl) (by kernel_rfl) ?_
  refine WL.nil ?_
  refine EX.then_code ?_
  refine CW.cond (decide ((l.length : Int) > 60)) (by kernel_rfl) (by kernel_rfl) (fun c11 => ?_) (fun c11 => ?_)
  ·
    skip
    have d12 := of_decide_eq_true c11
    refine CW.seq ?_
    refine CW.region ?_
    refine WL.q (.bool true) (by kernel_rfl) rfl (by kernel_rfl) (by kernel_rfl) ?_
    refine WL.nil ?_
    refine EX.then_code ?_
    refine CW.ret ?_
    refine EX.ret_then ?_
    refine EX.ret1 (v := (.bool true)) rfl (by kernel_rfl) ?_
    exact Ret.mk l10 G10 rfl
  ·
    skip
    have d13 := of_decide_eq_false c11
    refine CW.skip ?_
    refine EX.then_code ?_
    refine CW.seq ?_
    refine CW.region ?_
    refine WL.call (by kernel_rfl) rfl (by kernel_rfl) (by kernel_rfl) (newA G10) (RetM.elim ?_)
    rintro w14 h14 M14 _ l14 G14 ⟨t, rfl, A14⟩
    refine WL.q (.pointer (some ⟨t, 0, none⟩)) (by kernel_rfl) rfl (by kernel_rfl) (by kernel_rfl) ?_
    refine WL.nil ?_
    refine EX.then_code ?_
    refine CW.seq ?_
    refine CW.region ?_
    refine WL.q (.slice none 0 0) (by kernel_rfl) rfl (by kernel_rfl) (by kernel_rfl) ?_
    refine WL.nil ?_
    refine EX.then_code ?_
    refine CW.seq ?_
    refine CW.seq ?_
    refine CW.region ?_
    refine WL.q (.int .i64 0) (by kernel_rfl) rfl (by kernel_rfl) (by kernel_rfl) ?_
    refine WL.nil ?_
    refine EX.then_code ?_
    refine CW.block ?_
    refine CW.loop (β := Nat × List WD × List WhyD × Option Addr × Nat) (fun x_ => [(0, (.slice a l.length c)), (3, (.pointer (some ⟨t, 0, none⟩))), (4, (.slice x_.2.2.2.1 x_.2.2.1.length x_.2.2.2.2)), (5, (.int .i64 (x_.1 : Int)))]) (fun x_ w_ => ∃ h_ M0_ M1_, (PH.le h14 h_) ∧ (Wld K w_ h_ M1_) ∧ (TabA h_ t (dsO x_.1 x_.2.1) x_.2.1 x_.1 M M0_) ∧ (Own 28 whyE M0_ M1_ x_.2.2.2.1 x_.2.2.2.2 x_.2.2.1) ∧ (∀ e_ ∈ x_.2.2.1, whyG h_ e_) ∧ (x_.1 ≤ l.length) ∧ (x_.1 = 0 → x_.2.1 = []) ∧ (x_.2.2.1.map datW = x_.2.1) ∧ (x_.2.2.1.length ≤ x_.1) ∧ (0 < x_.1 → 0 < x_.2.1.length)) (fun x_ => l.length - x_.1) ⟨0, [], [], none, 0⟩ ⟨(by kernel_rfl), (by kernel_rfl), (by kernel_rfl), (lk_int (x := 0) (by kernel_rfl) (by first | omega | (dsimp only; omega) | rfl | (dsimp only; rfl))), trivial⟩ ⟨h14, M14, M14, (PH.le_refl _), G14, ((show ([] : List RowT) = dsO 0 [] from rfl) ▸ A14), (Own.nil 28 whyE M14), all_nil, (by first | omega | assumption | (dsimp only [List.length_nil, List.length_append, List.length_cons]; omega)), (fun _ => rfl), rfl, (by first | omega | assumption | (dsimp only [List.length_nil, List.length_append, List.length_cons]; omega)), (fun q_ => absurd q_ (by decide))⟩ ?_
    rintro ⟨i, cm, ws, ao, co⟩ w15 ⟨h15, M0_15, M1_15, l15, G15, o_tab15, o_want15, g_want15, hi, hz, hcm, hwl, hnz⟩
    try dsimp only at *
    refine CW.seq ?_
    refine CW.seq ?_
    refine CW.region ?_
    refine WL.q (.int .i64 (i : Int)) (by kernel_rfl) rfl (by kernel_rfl) (by kernel_rfl) ?_
    refine WL.q (.slice a l.length c) (by kernel_rfl) rfl (by kernel_rfl) (by kernel_rfl) ?_
    refine WL.q (.int .i64 (l.length : Int)) (by kernel_rfl) rfl (by kernel_rfl) (by kernel_rfl) ?_
    refine WL.q (.bool (decide ((i : Int) < (l.length : Int)))) (by kernel_rfl) rfl (by kernel_rfl) (by kernel_rfl) ?_
    refine WL.nil ?_
    refine EX.then_code ?_
    refine CW.cond (decide ((i : Int) < (l.length : Int))) (by kernel_rfl) (by kernel_rfl) (fun c16 => ?_) (fun c16 => ?_)
    ·
      skip
      have d17 := of_decide_eq_true c16
      refine CW.skip ?_
      refine EX.then_code ?_
      refine CW.seq ?_
      refine CW.block ?_
      refine CW.seq ?_
      refine CW.seq ?_
      refine CW.region ?_
      refine WL.q (.slice a l.length c) (by kernel_rfl) rfl (by kernel_rfl) (by kernel_rfl) ?_
      refine WL.q (.int .i64 (i : Int)) (by kernel_rfl) rfl (by kernel_rfl) (by kernel_rfl) ?_
      refine WL.q (eptr a (i * whyP.sz)) (by kernel_rfl) rfl (by kernel_rfl) (q_indexAddr (i := i) (E := whyP) (xs := l) (e := 28) (c := c) (k := .i64) (m := l.length) rfl rfl (by kernel_rfl) (by kernel_rfl) (by kernel_rfl) (Hl.mono (((l10.trans l14).trans l15).trans G15.imm)) (by omega)) ?_
      refine WL.q (eptr a (i * whyP.sz + 2)) (by kernel_rfl) rfl (by kernel_rfl) (q_fieldAddr_e (i := i) (k := i * whyP.sz) (off := 2) rfl (by kernel_rfl) (by kernel_rfl) (Hl.mono (((l10.trans l14).trans l15).trans G15.imm)) (by omega)) ?_
      refine WL.q (.slice (((l.getD i whyP.dflt)).a) (((l.getD i whyP.dflt)).facts.length) (((l.getD i whyP.dflt)).c)) (by kernel_rfl) rfl (by kernel_rfl) (q_load_e (i := i) (k := 2) (E := whyP) rfl (by kernel_rfl) (by kernel_rfl) (Hl.mono (((l10.trans l14).trans l15).trans G15.imm)) (by omega) (by decide) (by kernel_rfl)) ?_
      refine WL.q (.int .i64 (((l.getD i whyP.dflt)).facts.length : Int)) (by kernel_rfl) rfl (by kernel_rfl) (by kernel_rfl) ?_
      refine WL.q (.bool (decide ((((l.getD i whyP.dflt)).facts.length : Int) > 20))) (by kernel_rfl) rfl (by kernel_rfl) (by kernel_rfl) ?_
      refine WL.nil ?_
      refine EX.then_code ?_
      refine CW.cond (decide ((((l.getD i whyP.dflt)).facts.length : Int) > 20)) (by kernel_rfl) (by kernel_rfl) (fun c18 => ?_) (fun c18 => ?_)
      ·
        skip
        have d19 := of_decide_eq_true c18
        refine CW.seq ?_
        refine CW.region ?_
        refine WL.q (.bool true) (by kernel_rfl) rfl (by kernel_rfl) (by kernel_rfl) ?_
        refine WL.nil ?_
        refine EX.then_code ?_
        refine CW.ret ?_
        refine EX.ret_then ?_
        refine EX.ret_block ?_
        refine EX.ret_then ?_
        refine EX.ret_then ?_
        refine EX.ret_block ?_
        refine EX.ret_then ?_
        refine EX.ret1 (v := (.bool true)) rfl (by kernel_rfl) ?_
        obtain ⟨N20, s21, s22⟩ : ∃ N_, Own 28 whyE M N_ ao co ws ∧ TabA h15 t (dsO i cm) cm i N_ M1_15 := Ly.swap (lyTabA h15 t (dsO i cm) cm i) (Ly.own (E := whyE) 28 ao co ws) o_tab15 o_want15
        obtain ⟨N23, s24, s25⟩ : ∃ N_, TabA h15 t (dsO i cm) cm i M N_ ∧ Own 28 whyE N_ M1_15 ao co ws := Ly.swap (Ly.own (E := whyE) 28 ao co ws) (lyTabA h15 t (dsO i cm) cm i) s21 s22
        exact Ret.mk ((l10.trans l14).trans l15) (G15.drop ((Ly.le (lyTabA h15 t (dsO i cm) cm i) s24).trans s25.le)) rfl
      ·
        skip
        have d26 := of_decide_eq_false c18
        refine CW.skip ?_
        refine EX.then_code ?_
        refine CW.seq ?_
        refine CW.region ?_
        refine WL.q (.pointer (some ⟨t, 0, none⟩)) (by kernel_rfl) rfl (by kernel_rfl) (by kernel_rfl) ?_
        refine WL.q (.slice a l.length c) (by kernel_rfl) rfl (by kernel_rfl) (by kernel_rfl) ?_
        refine WL.q (.int .i64 (i : Int)) (by kernel_rfl) rfl (by kernel_rfl) (by kernel_rfl) ?_
        refine WL.q (eptr a (i * whyP.sz)) (by kernel_rfl) rfl (by kernel_rfl) (q_indexAddr (i := i) (E := whyP) (xs := l) (e := 28) (c := c) (k := .i64) (m := l.length) rfl rfl (by kernel_rfl) (by kernel_rfl) (by kernel_rfl) (Hl.mono (((l10.trans l14).trans l15).trans G15.imm)) (by omega)) ?_
        refine WL.q (.agg #[(.int .i64 (((l.getD i whyP.dflt)).rule)), (.int .i64 (((l.getD i whyP.dflt)).alt)), (.slice (((l.getD i whyP.dflt)).a) (((l.getD i whyP.dflt)).facts.length) (((l.getD i whyP.dflt)).c))]) (by kernel_rfl) rfl (by kernel_rfl) (q_val (q_loadAgg_e (i := i) (E := whyP) rfl (by kernel_rfl) (by kernel_rfl) (Hl.mono (((l10.trans l14).trans l15).trans G15.imm)) (by omega)) (by kernel_rfl)) ?_
        obtain ⟨N27, s28, s29⟩ : ∃ N_, Own 28 whyE M N_ ao co ws ∧ TabA h15 t (dsO i cm) cm i N_ M1_15 := Ly.swap (lyTabA h15 t (dsO i cm) cm i) (Ly.own (E := whyE) 28 ao co ws) o_tab15 o_want15
        refine WL.call (by kernel_rfl) rfl (by kernel_rfl) (by kernel_rfl) (supA_spec G15 s29 5 (by decide) (by omega) (y := (l.getD i whyP.dflt)) (show whyG h15 (l.getD i whyP.dflt) from ⟨((Gl _ (getD_mem (d := whyP.dflt) (show i < l.length by omega))).mono ((l10.trans l14).trans l15)), by omega⟩) (dsO_of hz)) (RetM.elim ?_)
        rintro w30 h30 M30 _ l30 G30 ⟨rfl, A30⟩
        have B30 : TabA h30 t (dsO (i + 1) (addC cm (datW (l.getD i whyP.dflt)))) (addC cm (datW (l.getD i whyP.dflt))) (i + 1) N27 M30 := TabA.cast (dsO_sup i cm _) (dsO_supC cm _) A30
        refine WL.nil ?_
        refine EX.then_code ?_
        refine CW.seq ?_
        refine CW.region ?_
        refine WL.q (.slice ao ws.length co) (by kernel_rfl) rfl (by kernel_rfl) (by kernel_rfl) ?_
        refine WL.q (.slice a l.length c) (by kernel_rfl) rfl (by kernel_rfl) (by kernel_rfl) ?_
        refine WL.q (.int .i64 (i : Int)) (by kernel_rfl) rfl (by kernel_rfl) (by kernel_rfl) ?_
        refine WL.q (eptr a (i * whyP.sz)) (by kernel_rfl) rfl (by kernel_rfl) (q_indexAddr (i := i) (E := whyP) (xs := l) (e := 28) (c := c) (k := .i64) (m := l.length) rfl rfl (by kernel_rfl) (by kernel_rfl) (by kernel_rfl) (Hl.mono ((((l10.trans l14).trans l15).trans l30).trans G30.imm)) (by omega)) ?_
        refine WL.q (.agg #[(.int .i64 (((l.getD i whyP.dflt)).rule)), (.int .i64 (((l.getD i whyP.dflt)).alt)), (.slice (((l.getD i whyP.dflt)).a) (((l.getD i whyP.dflt)).facts.length) (((l.getD i whyP.dflt)).c))]) (by kernel_rfl) rfl (by kernel_rfl) (q_val (q_loadAgg_e (i := i) (E := whyP) rfl (by kernel_rfl) (by kernel_rfl) (Hl.mono ((((l10.trans l14).trans l15).trans l30).trans G30.imm)) (by omega)) (by kernel_rfl)) ?_
        refine WL.call (by kernel_rfl) rfl (by kernel_rfl) (by kernel_rfl) (findO_spec (c := co) G30 (s28.reads.mono (Ly.le (lyTabA h30 t (dsO (i + 1) (addC cm (datW (l.getD i whyP.dflt)))) (addC cm (datW (l.getD i whyP.dflt))) (i + 1)) B30)) (all_up @whyG.mono l30 g_want15) (by omega) (y := (l.getD i whyP.dflt)) (show whyG h30 (l.getD i whyP.dflt) from ⟨((Gl _ (getD_mem (d := whyP.dflt) (show i < l.length by omega))).mono (((l10.trans l14).trans l15).trans l30)), by omega⟩)) (Ret.elim ?_)
        rintro w31 h31 _ l31 G31 rfl
        refine WL.q (.bool (decide ((idxF (fun x => sameW x (l.getD i whyP.dflt)) ws) < 0))) (by kernel_rfl) rfl (by kernel_rfl) (by kernel_rfl) ?_
        refine WL.nil ?_
        refine EX.then_code ?_
        refine CW.cond (decide ((idxF (fun x => sameW x (l.getD i whyP.dflt)) ws) < 0)) (by kernel_rfl) (by kernel_rfl) (fun c32 => ?_) (fun c32 => ?_)
        ·
          skip
          have d33 := of_decide_eq_true c32
          refine CW.region ?_
          refine WL.q (.slice ao ws.length co) (by kernel_rfl) rfl (by kernel_rfl) (by kernel_rfl) ?_
          refine WL.q (.slice a l.length c) (by kernel_rfl) rfl (by kernel_rfl) (by kernel_rfl) ?_
          refine WL.q (.int .i64 (i : Int)) (by kernel_rfl) rfl (by kernel_rfl) (by kernel_rfl) ?_
          refine WL.q (eptr a (i * whyP.sz)) (by kernel_rfl) rfl (by kernel_rfl) (q_indexAddr (i := i) (E := whyP) (xs := l) (e := 28) (c := c) (k := .i64) (m := l.length) rfl rfl (by kernel_rfl) (by kernel_rfl) (by kernel_rfl) (Hl.mono (((((l10.trans l14).trans l15).trans l30).trans l31).trans G31.imm)) (by omega)) ?_
          refine WL.q (.agg #[(.int .i64 (((l.getD i whyP.dflt)).rule)), (.int .i64 (((l.getD i whyP.dflt)).alt)), (.slice (((l.getD i whyP.dflt)).a) (((l.getD i whyP.dflt)).facts.length) (((l.getD i whyP.dflt)).c))]) (by kernel_rfl) rfl (by kernel_rfl) (q_val (q_loadAgg_e (i := i) (E := whyP) rfl (by kernel_rfl) (by kernel_rfl) (Hl.mono (((((l10.trans l14).trans l15).trans l30).trans l31).trans G31.imm)) (by omega)) (by kernel_rfl)) ?_
          refine WL.ex (by kernel_rfl) rfl (by kernel_rfl) (q_newF (ob := (.cells #[(.int .i64 (((l.getD i whyP.dflt)).rule)), (.int .i64 (((l.getD i whyP.dflt)).alt)), (.slice (((l.getD i whyP.dflt)).a) (((l.getD i whyP.dflt)).facts.length) (((l.getD i whyP.dflt)).c))] 28 (0, 0))) G31 (fun b_ => .slice (some ⟨b_, 0, none⟩) 1 1) (fun u_ => by kernel_rfl)) ?_
          rintro _ w34 ⟨b34, h34, rfl, l34, G34, hb34, L34⟩
          have r35 : RS h34 whyE (some ⟨b34, 0, none⟩) [((l.getD i whyP.dflt))] := RS.blk hb34 (by kernel_rfl)
          have g35 : ∀ e_ ∈ [((l.getD i whyP.dflt))], whyG h34 e_ := (all_one (show whyG h34 ((l.getD i whyP.dflt)) from ⟨((Gl (l.getD i whyP.dflt) (getD_mem (d := whyP.dflt) (show i < l.length from (by omega)))).mono (((((l10.trans l14).trans l15).trans l30).trans l31).trans l34)), by omega⟩))
          obtain ⟨N36, s37, s38⟩ : ∃ N_, TabA h30 t (dsO (i + 1) (addC cm (datW (l.getD i whyP.dflt)))) (addC cm (datW (l.getD i whyP.dflt))) (i + 1) M N_ ∧ Own 28 whyE N_ M30 ao co ws := Ly.swap (Ly.own (E := whyE) 28 ao co ws) (lyTabA h30 t (dsO (i + 1) (addC cm (datW (l.getD i whyP.dflt)))) (addC cm (datW (l.getD i whyP.dflt))) (i + 1)) s28 B30
          refine WL.ex (by kernel_rfl) rfl (by kernel_rfl) (q_app (e := 28) (bytes := 40) (cap := co) (c2 := 1) (M0 := N36) (xs := ws) (ys := ([((l.getD i whyP.dflt))])) G34 s38 (r35.mono ((PH.le_refl _).trans G34.imm)) rfl (by kernel_rfl) (by kernel_rfl) (by kernel_rfl) (by first | (simp only [maxLen, List.length_append, List.length_cons, List.length_nil]; omega) | (simp only [maxLen]; omega)) (by first | omega | (simp only [List.length_append, List.length_cons, List.length_nil]; omega))) ?_
          rintro _ w39 ⟨a39, k39, M39, rfl, G39, o39, z39⟩
          have g39 : ∀ e_ ∈ (ws ++ ([((l.getD i whyP.dflt))])), whyG h34 e_ := all_app (all_up @whyG.mono ((l30.trans l31).trans l34) g_want15) g35
          refine WL.q (.slice a39 ((ws ++ ([((l.getD i whyP.dflt))])).length) k39) (by kernel_rfl) rfl (by kernel_rfl) (by kernel_rfl) ?_
          refine WL.nil ?_
          refine EX.in_block ?_
          refine EX.then_code ?_
          refine CW.region ?_
          refine WL.q (.int .i64 (i : Int)) (by kernel_rfl) rfl (by kernel_rfl) (by kernel_rfl) ?_
          refine WL.q (.int .i64 ((i + 1 : Nat) : Int)) (by kernel_rfl) rfl (by kernel_rfl) (q_int (x := IntKind.i64.wrap ((i : Int) + 1)) (by kernel_rfl) (wrap_to (by omega) (by omega) (by omega))) ?_
          refine WL.q (.int .i64 ((i + 1 : Nat) : Int)) (by kernel_rfl) rfl (by kernel_rfl) (by kernel_rfl) ?_
          refine WL.nil ?_
          have hac : addC cm (datW (l.getD i whyP.dflt)) = cm ++ [datW (l.getD i whyP.dflt)] := by unfold addC; rw [if_neg]; intro q_; rw [← hcm] at q_; have := idx_ge q_; omega
          exact EX.then_loop ⟨i + 1, addC cm (datW (l.getD i whyP.dflt)), (ws ++ ([((l.getD i whyP.dflt))])), a39, k39⟩ ⟨(by kernel_rfl), (by kernel_rfl), (by kernel_rfl), (lk_int (x := ((i + 1 : Nat) : Int)) (by kernel_rfl) (by first | omega | (dsimp only; omega) | rfl | (dsimp only; rfl))), trivial⟩ ⟨h34, N36, M39, (((l15.trans l30).trans l31).trans l34), G39, (TabA.mono (l31.trans l34) s37), o39, g39, (by first | omega | assumption | (dsimp only [List.length_nil, List.length_append, List.length_cons]; omega)), (fun q_ => by omega), (by rw [hac, ← hcm]; try simp), (by first | omega | (simp only [List.length_append, List.length_cons, List.length_nil]; omega)), (fun _ => addC_pos _ _)⟩ (by first | omega | (dsimp only; omega))
        ·
          skip
          have d40 := of_decide_eq_false c32
          refine CW.skip ?_
          refine EX.in_block ?_
          refine EX.then_code ?_
          refine CW.region ?_
          refine WL.q (.int .i64 (i : Int)) (by kernel_rfl) rfl (by kernel_rfl) (by kernel_rfl) ?_
          refine WL.q (.int .i64 ((i + 1 : Nat) : Int)) (by kernel_rfl) rfl (by kernel_rfl) (q_int (x := IntKind.i64.wrap ((i : Int) + 1)) (by kernel_rfl) (wrap_to (by omega) (by omega) (by omega))) ?_
          refine WL.q (.int .i64 ((i + 1 : Nat) : Int)) (by kernel_rfl) rfl (by kernel_rfl) (by kernel_rfl) ?_
          refine WL.nil ?_
          have hac : addC cm (datW (l.getD i whyP.dflt)) = cm := by unfold addC; rw [if_pos]; rw [← hcm]; exact Classical.byContradiction fun q_ => idx_no' q_ (by omega)
          obtain ⟨N41, s42, s43⟩ : ∃ N_, TabA h30 t (dsO (i + 1) (addC cm (datW (l.getD i whyP.dflt)))) (addC cm (datW (l.getD i whyP.dflt))) (i + 1) M N_ ∧ Own 28 whyE N_ M30 ao co ws := Ly.swap (Ly.own (E := whyE) 28 ao co ws) (lyTabA h30 t (dsO (i + 1) (addC cm (datW (l.getD i whyP.dflt)))) (addC cm (datW (l.getD i whyP.dflt))) (i + 1)) s28 B30
          exact EX.then_loop ⟨i + 1, addC cm (datW (l.getD i whyP.dflt)), ws, ao, co⟩ ⟨(by kernel_rfl), (by kernel_rfl), (by kernel_rfl), (lk_int (x := ((i + 1 : Nat) : Int)) (by kernel_rfl) (by first | omega | (dsimp only; omega) | rfl | (dsimp only; rfl))), trivial⟩ ⟨h31, N41, M30, ((l15.trans l30).trans l31), G31, (TabA.mono l31 s42), s43, (all_up @whyG.mono (l30.trans l31) g_want15), (by first | omega | assumption | (dsimp only [List.length_nil, List.length_append, List.length_cons]; omega)), (fun q_ => by omega), (by rw [hac, ← hcm]; try simp), (by first | omega | (simp only [List.length_append, List.length_cons, List.length_nil]; omega)), (fun _ => addC_pos _ _)⟩ (by first | omega | (dsimp only; omega))
    ·
      skip
      have d44 := of_decide_eq_false c16
      refine CW.exit ?_
      refine EX.exit_then ?_
      refine EX.exit_then ?_
      refine EX.exit_here ?_
      refine EX.then_code ?_
      refine CW.seq ?_
      refine CW.region ?_
      rcases Nat.eq_zero_or_pos l.length with hl0 | hl0
      ·
        skip
        have hi0 : i = 0 := by omega
        have hc0 := hz hi0
        have hds0 : dsO i cm = [] := by unfold dsO; rw [if_pos hi0]
        obtain ⟨h45, l45, G45, r45⟩ := o_want15.freeze G15
        refine WL.q (.pointer (some ⟨t, 0, none⟩)) (by kernel_rfl) rfl (by kernel_rfl) (by kernel_rfl) ?_
        refine WL.call (by kernel_rfl) rfl (by kernel_rfl) (by kernel_rfl) (whyN_spec G45 (hds0 ▸ (TabA.mono l45 o_tab15)) (PH.le_refl _) (f := 5) (fun d hd => by cases hd)) (Ret.elim ?_)
        rintro w46 h46 _ l46 G46 rfl
        refine WL.q (.tuple #[(.slice none (([] : List WhyD).length) 0), (.bool false)]) (by kernel_rfl) rfl (by kernel_rfl) (by kernel_rfl) ?_
        refine WL.q (.slice none (([] : List WhyD).length) 0) (by kernel_rfl) rfl (by kernel_rfl) (by kernel_rfl) ?_
        refine WL.q (.bool false) (by kernel_rfl) rfl (by kernel_rfl) (by kernel_rfl) ?_
        refine WL.q (.slice none (([] : List WhyD).length) 0) (by kernel_rfl) rfl (by kernel_rfl) (by kernel_rfl) ?_
        refine WL.q (.bool false) (by kernel_rfl) rfl (by kernel_rfl) (by kernel_rfl) ?_
        refine WL.nil ?_
        refine EX.then_code ?_
        refine CW.seq ?_
        refine CW.region ?_
        refine WL.q (.bool false) (by kernel_rfl) rfl (by kernel_rfl) (by kernel_rfl) ?_
        refine WL.q (.bool true) (by kernel_rfl) rfl (by kernel_rfl) (by kernel_rfl) ?_
        refine WL.q (.bool true) (by kernel_rfl) rfl (by kernel_rfl) (by kernel_rfl) ?_
        refine WL.q (.slice none (([] : List WhyD).length) 0) (by kernel_rfl) rfl (by kernel_rfl) (by kernel_rfl) ?_
        refine WL.q (.slice ao ws.length co) (by kernel_rfl) rfl (by kernel_rfl) (by kernel_rfl) ?_
        refine WL.call (by kernel_rfl) rfl (by kernel_rfl) (by kernel_rfl) (rows_spec (aa := none) (xs := ([] : List WhyD)) (ys := ws) (ca := 0) (cb := co) G46 (RS.nil _ _ _) all_nil (r45.mono l46) (all_up @whyG.mono (l45.trans l46) g_want15) (by first | (rw [map_len (show ([] : List WhyD).map datW = ws.map datW by rw [hcm, hc0]; rfl)]; omega) | simp)) (Ret.elim ?_)
        rintro w47 h47 _ l47 G47 rfl
        refine WL.know 57 (.bool true) (x := (.bool (rowsW ([] : List WhyD) ws))) (by kernel_rfl) (congrArg Value.bool (by exact decide_eq_true (show ([] : List WhyD).map datW = ws.map datW by rw [hcm, hc0]; rfl))) ?_
        refine WL.q (.bool true) (by kernel_rfl) rfl (by kernel_rfl) (by kernel_rfl) ?_
        refine WL.q (.bool true) (by kernel_rfl) rfl (by kernel_rfl) (by kernel_rfl) ?_
        refine WL.q (.pointer (some ⟨t, 0, none⟩)) (by kernel_rfl) rfl (by kernel_rfl) (by kernel_rfl) ?_
        refine WL.call (by kernel_rfl) rfl (by kernel_rfl) (by kernel_rfl) (allA_spec G47 (TabA.mono ((l45.trans l46).trans l47) o_tab15) (PH.le_refl _) (by omega)) (Ret.elim ?_)
        rintro w48 h48 _ l48 G48 ⟨a48, fs48, rfl, r48, g48, q48_⟩
        have q48 : fs48.map datW = ws.map datW := by rw [q48_, hcm]
        refine WL.q (.slice ao ws.length co) (by kernel_rfl) rfl (by kernel_rfl) (by kernel_rfl) ?_
        refine WL.call (by kernel_rfl) rfl (by kernel_rfl) (by kernel_rfl) (rows_spec (aa := a48) (xs := fs48) (ys := ws) (ca := fs48.length) (cb := co) G48 (r48.mono (PH.le_refl _)) g48 (r45.mono ((l46.trans l47).trans l48)) (all_up @whyG.mono (((l45.trans l46).trans l47).trans l48) g_want15) (by first | (rw [map_len q48]; omega) | simp)) (Ret.elim ?_)
        rintro w49 h49 _ l49 G49 rfl
        refine WL.know 63 (.bool true) (x := (.bool (rowsW fs48 ws))) (by kernel_rfl) (congrArg Value.bool (by exact decide_eq_true q48)) ?_
        refine WL.q (.bool true) (by kernel_rfl) rfl (by kernel_rfl) (by kernel_rfl) ?_
        refine WL.q (.bool true) (by kernel_rfl) rfl (by kernel_rfl) (by kernel_rfl) ?_
        refine WL.q (.pointer (some ⟨t, 0, none⟩)) (by kernel_rfl) rfl (by kernel_rfl) (by kernel_rfl) ?_
        refine WL.call (by kernel_rfl) rfl (by kernel_rfl) (by kernel_rfl) (standsN_spec G49 (hds0 ▸ (TabA.mono ((((l45.trans l46).trans l47).trans l48).trans l49) o_tab15)) (PH.le_refl _) (f := 5) (fun d hd => by cases hd)) (Ret.elim ?_)
        rintro w50 h50 _ l50 G50 rfl
        refine WL.q (.slice a l.length c) (by kernel_rfl) rfl (by kernel_rfl) (by kernel_rfl) ?_
        refine WL.q (.int .i64 (l.length : Int)) (by kernel_rfl) rfl (by kernel_rfl) (by kernel_rfl) ?_
        refine WL.q (.bool (decide ((l.length : Int) > 0))) (by kernel_rfl) rfl (by kernel_rfl) (by kernel_rfl) ?_
        refine WL.know 70 (.bool false) (x := (.bool (decide ((l.length : Int) > 0)))) (by kernel_rfl) (congrArg Value.bool (decide_eq_false (by omega))) ?_
        refine WL.q (.bool true) (by kernel_rfl) rfl (by kernel_rfl) (by kernel_rfl) ?_
        refine WL.q (.bool true) (by kernel_rfl) rfl (by kernel_rfl) (by kernel_rfl) ?_
        refine WL.q (.bool true) (by kernel_rfl) rfl (by kernel_rfl) (by kernel_rfl) ?_
        refine WL.nil ?_
        refine EX.then_code ?_
        refine CW.ret ?_
        refine EX.ret1 (v := (.bool true)) rfl (by kernel_rfl) ?_
        exact Ret.mk ((((((((l10.trans l14).trans l15).trans l45).trans l46).trans l47).trans l48).trans l49).trans l50) (G50.drop (Ly.le (lyTabA h15 t (dsO i cm) cm i) o_tab15)) rfl
      ·
        skip
        have hds : dsO i cm = [(5, false, cm)] := by unfold dsO; rw [if_neg (by omega)]
        obtain ⟨h51, l51, G51, r51⟩ := o_want15.freeze G15
        refine WL.q (.pointer (some ⟨t, 0, none⟩)) (by kernel_rfl) rfl (by kernel_rfl) (by kernel_rfl) ?_
        refine WL.call (by kernel_rfl) rfl (by kernel_rfl) (by kernel_rfl) (whyA_spec G51 (hds ▸ (TabA.mono l51 o_tab15)) (PH.le_refl _) (by omega) (k := 0) (by simp) (f := 5) rfl) (Ret.elim ?_)
        rintro w52 h52 _ l52 G52 ⟨a52, fs52, rfl, r52, g52, q52_⟩
        have q52 : fs52.map datW = ws.map datW := by rw [q52_, hcm]; rfl
        refine WL.q (.tuple #[(.slice a52 fs52.length fs52.length), (.bool false)]) (by kernel_rfl) rfl (by kernel_rfl) (by kernel_rfl) ?_
        refine WL.q (.slice a52 fs52.length fs52.length) (by kernel_rfl) rfl (by kernel_rfl) (by kernel_rfl) ?_
        refine WL.q (.bool false) (by kernel_rfl) rfl (by kernel_rfl) (by kernel_rfl) ?_
        refine WL.q (.slice a52 fs52.length fs52.length) (by kernel_rfl) rfl (by kernel_rfl) (by kernel_rfl) ?_
        refine WL.q (.bool false) (by kernel_rfl) rfl (by kernel_rfl) (by kernel_rfl) ?_
        refine WL.nil ?_
        refine EX.then_code ?_
        refine CW.seq ?_
        refine CW.region ?_
        refine WL.q (.bool false) (by kernel_rfl) rfl (by kernel_rfl) (by kernel_rfl) ?_
        refine WL.q (.bool true) (by kernel_rfl) rfl (by kernel_rfl) (by kernel_rfl) ?_
        refine WL.q (.bool true) (by kernel_rfl) rfl (by kernel_rfl) (by kernel_rfl) ?_
        refine WL.q (.slice a52 fs52.length fs52.length) (by kernel_rfl) rfl (by kernel_rfl) (by kernel_rfl) ?_
        refine WL.q (.slice ao ws.length co) (by kernel_rfl) rfl (by kernel_rfl) (by kernel_rfl) ?_
        have hfl52 : fs52.length ≤ 1000 := by rw [map_len q52]; omega
        refine WL.call (by kernel_rfl) rfl (by kernel_rfl) (by kernel_rfl) (rows_spec (aa := a52) (xs := fs52) (ys := ws) (ca := fs52.length) (cb := co) G52 (r52.mono (PH.le_refl _)) g52 (r51.mono l52) (all_up @whyG.mono (l51.trans l52) g_want15) (by first | (rw [map_len q52]; omega) | simp)) (Ret.elim ?_)
        rintro w53 h53 _ l53 G53 rfl
        refine WL.know 57 (.bool true) (x := (.bool (rowsW fs52 ws))) (by kernel_rfl) (congrArg Value.bool (by exact decide_eq_true q52)) ?_
        refine WL.q (.bool true) (by kernel_rfl) rfl (by kernel_rfl) (by kernel_rfl) ?_
        refine WL.q (.bool true) (by kernel_rfl) rfl (by kernel_rfl) (by kernel_rfl) ?_
        refine WL.q (.pointer (some ⟨t, 0, none⟩)) (by kernel_rfl) rfl (by kernel_rfl) (by kernel_rfl) ?_
        refine WL.call (by kernel_rfl) rfl (by kernel_rfl) (by kernel_rfl) (allA_spec G53 (TabA.mono ((l51.trans l52).trans l53) o_tab15) (PH.le_refl _) (by omega)) (Ret.elim ?_)
        rintro w54 h54 _ l54 G54 ⟨a54, fs54, rfl, r54, g54, q54_⟩
        have q54 : fs54.map datW = ws.map datW := by rw [q54_, hcm]
        refine WL.q (.slice ao ws.length co) (by kernel_rfl) rfl (by kernel_rfl) (by kernel_rfl) ?_
        have hfl54 : fs54.length ≤ 1000 := by rw [map_len q54]; omega
        refine WL.call (by kernel_rfl) rfl (by kernel_rfl) (by kernel_rfl) (rows_spec (aa := a54) (xs := fs54) (ys := ws) (ca := fs54.length) (cb := co) G54 (r54.mono (PH.le_refl _)) g54 (r51.mono ((l52.trans l53).trans l54)) (all_up @whyG.mono (((l51.trans l52).trans l53).trans l54) g_want15) (by first | (rw [map_len q54]; omega) | simp)) (Ret.elim ?_)
        rintro w55 h55 _ l55 G55 rfl
        refine WL.know 63 (.bool true) (x := (.bool (rowsW fs54 ws))) (by kernel_rfl) (congrArg Value.bool (by exact decide_eq_true q54)) ?_
        refine WL.q (.bool true) (by kernel_rfl) rfl (by kernel_rfl) (by kernel_rfl) ?_
        refine WL.q (.bool true) (by kernel_rfl) rfl (by kernel_rfl) (by kernel_rfl) ?_
        refine WL.q (.pointer (some ⟨t, 0, none⟩)) (by kernel_rfl) rfl (by kernel_rfl) (by kernel_rfl) ?_
        refine WL.call (by kernel_rfl) rfl (by kernel_rfl) (by kernel_rfl) (standsA_spec G55 (hds ▸ (TabA.mono ((((l51.trans l52).trans l53).trans l54).trans l55) o_tab15)) (PH.le_refl _) (k := 0) (by simp) (f := 5) rfl) (Ret.elim ?_)
        rintro w56 h56 _ l56 G56 rfl
        refine WL.know 67 (.bool true) (x := (.bool (standsA (5, false, cm)))) (by kernel_rfl) (congrArg Value.bool (by have q_ := hnz (by omega); unfold standsA; simp [q_])) ?_
        refine WL.q (.slice a l.length c) (by kernel_rfl) rfl (by kernel_rfl) (by kernel_rfl) ?_
        refine WL.q (.int .i64 (l.length : Int)) (by kernel_rfl) rfl (by kernel_rfl) (by kernel_rfl) ?_
        refine WL.q (.bool (decide ((l.length : Int) > 0))) (by kernel_rfl) rfl (by kernel_rfl) (by kernel_rfl) ?_
        refine WL.know 70 (.bool true) (x := (.bool (decide ((l.length : Int) > 0)))) (by kernel_rfl) (congrArg Value.bool (decide_eq_true (by omega))) ?_
        refine WL.q (.bool true) (by kernel_rfl) rfl (by kernel_rfl) (by kernel_rfl) ?_
        refine WL.q (.bool true) (by kernel_rfl) rfl (by kernel_rfl) (by kernel_rfl) ?_
        refine WL.q (.bool true) (by kernel_rfl) rfl (by kernel_rfl) (by kernel_rfl) ?_
        refine WL.nil ?_
        refine EX.then_code ?_
        refine CW.ret ?_
        refine EX.ret1 (v := (.bool true)) rfl (by kernel_rfl) ?_
        exact Ret.mk ((((((((l10.trans l14).trans l15).trans l51).trans l52).trans l53).trans l54).trans l55).trans l56) (G56.drop (Ly.le (lyTabA h15 t (dsO i cm) cm i) o_tab15)) rfl
end Go.Proofs
