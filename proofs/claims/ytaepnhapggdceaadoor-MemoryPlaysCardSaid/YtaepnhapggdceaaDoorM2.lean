import Derived.Test.YtaepnhapggdceaaDoorM1
import Derived.Test.YtaepnhapggdceaaDoorMm
namespace Go.Proofs
open Go Go.Wk
theorem isNaN_spec {K : Key} {w : World} {h M : PH} (G : Wld K w h M) (a : Int) :
    Calls Tryd.prog 42 #[.int .i64 a] w (Ret K h M fun _ v => v = .bool false) := by
  refine enter (l := [(.int .i64 a)]) Tryd.func42 rfl Tryd.ntmps42 (Nat.le_of_ble_eq_true rfl) ?_
  simp only [params]
  refine CW.seq ?_
  refine CW.region ?_
  refine WL.q (.bool false) (by kernel_rfl) rfl (by kernel_rfl) (by kernel_rfl) ?_
  refine WL.nil ?_
  refine EX.then_code ?_
  refine CW.seq ?_
  refine CW.region ?_
  refine WL.q (.int .i64 a) (by kernel_rfl) rfl (by kernel_rfl) (by kernel_rfl) ?_
  refine WL.q (.int .i64 a) (by kernel_rfl) rfl (by kernel_rfl) (by kernel_rfl) ?_
  refine WL.q (.bool ((a : Int) != a)) (by kernel_rfl) rfl (by kernel_rfl) (by kernel_rfl) ?_
  refine WL.q (.bool ((a : Int) != a)) (by kernel_rfl) rfl (by kernel_rfl) (by kernel_rfl) ?_
  refine WL.nil ?_
  refine EX.then_code ?_
  refine CW.ret ?_
  refine EX.ret1 (v := (.bool ((a : Int) != a))) rfl (by kernel_rfl) ?_
  exact Ret.mk (PH.le_refl _) G (congrArg Value.bool (by simp))

theorem cmp_spec {K : Key} {w : World} {h M : PH} (G : Wld K w h M) (a b : Int) :
    Calls Tryd.prog 37 #[.int .i64 a, .int .i64 b] w (Ret K h M fun _ v => v = .int .i64 (cmpI a b)) := by
  refine enter (l := [(.int .i64 a), (.int .i64 b)]) Tryd.func37 rfl Tryd.ntmps37 (Nat.le_of_ble_eq_true rfl) ?_
  simp only [params]
  refine CW.seq ?_
  refine CW.region ?_
  refine WL.q (.int .i64 0) (by kernel_rfl) rfl (by kernel_rfl) (by kernel_rfl) ?_
  refine WL.nil ?_
  refine EX.then_code ?_
  refine CW.seq ?_
  refine CW.region ?_
  refine WL.q (.int .i64 a) (by kernel_rfl) rfl (by kernel_rfl) (by kernel_rfl) ?_
  refine WL.call (by kernel_rfl) rfl (by kernel_rfl) (by kernel_rfl) (isNaN_spec G a) (Ret.elim ?_)
  rintro w1 h1 _ l1 G1 rfl
  refine WL.q (.bool false) (by kernel_rfl) rfl (by kernel_rfl) (by kernel_rfl) ?_
  refine WL.nil ?_
  refine EX.then_code ?_
  refine CW.seq ?_
  refine CW.region ?_
  refine WL.q (.int .i64 b) (by kernel_rfl) rfl (by kernel_rfl) (by kernel_rfl) ?_
  refine WL.call (by kernel_rfl) rfl (by kernel_rfl) (by kernel_rfl) (isNaN_spec G1 b) (Ret.elim ?_)
  rintro w2 h2 _ l2 G2 rfl
  refine WL.q (.bool false) (by kernel_rfl) rfl (by kernel_rfl) (by kernel_rfl) ?_
  refine WL.nil ?_
  refine EX.then_code ?_
  refine CW.seq ?_
  refine CW.seq ?_
  refine CW.region ?_
  refine WL.q (.bool false) (by kernel_rfl) rfl (by kernel_rfl) (by kernel_rfl) ?_
  refine WL.nil ?_
  refine EX.then_code ?_
  refine CW.cond_f (by kernel_rfl) (by kernel_rfl) ?_
  refine CW.skip ?_
  refine EX.then_code ?_
  refine CW.seq ?_
  refine CW.seq ?_
  refine CW.region ?_
  refine WL.q (.bool false) (by kernel_rfl) rfl (by kernel_rfl) (by kernel_rfl) ?_
  refine WL.nil ?_
  refine EX.then_code ?_
  refine CW.cond_f (by kernel_rfl) (by kernel_rfl) ?_
  refine CW.skip ?_
  refine EX.then_code ?_
  refine CW.seq ?_
  refine CW.seq ?_
  refine CW.region ?_
  refine WL.q (.int .i64 a) (by kernel_rfl) rfl (by kernel_rfl) (by kernel_rfl) ?_
  refine WL.q (.int .i64 b) (by kernel_rfl) rfl (by kernel_rfl) (by kernel_rfl) ?_
  refine WL.q (.bool (decide (a < b))) (by kernel_rfl) rfl (by kernel_rfl) (by kernel_rfl) ?_
  refine WL.nil ?_
  refine EX.then_code ?_
  refine CW.cond (decide (a < b)) (by kernel_rfl) (by kernel_rfl) (fun c3 => ?_) (fun c3 => ?_)
  ·
    skip
    have d4 := of_decide_eq_true c3
    refine CW.seq ?_
    refine CW.region ?_
    refine WL.q (.int .i64 (-1)) (by kernel_rfl) rfl (by kernel_rfl) (by kernel_rfl) ?_
    refine WL.nil ?_
    refine EX.then_code ?_
    refine CW.ret ?_
    refine EX.ret_then ?_
    refine EX.ret1 (v := (.int .i64 (-1))) rfl (by kernel_rfl) ?_
    exact Ret.mk (l1.trans l2) G2 (congrArg (Value.int .i64) (cmpI_lt (by omega)).symm)
  ·
    skip
    have d5 := of_decide_eq_false c3
    refine CW.skip ?_
    refine EX.then_code ?_
    refine CW.seq ?_
    refine CW.seq ?_
    refine CW.region ?_
    refine WL.q (.int .i64 a) (by kernel_rfl) rfl (by kernel_rfl) (by kernel_rfl) ?_
    refine WL.q (.int .i64 b) (by kernel_rfl) rfl (by kernel_rfl) (by kernel_rfl) ?_
    refine WL.q (.bool (decide (a > b))) (by kernel_rfl) rfl (by kernel_rfl) (by kernel_rfl) ?_
    refine WL.nil ?_
    refine EX.then_code ?_
    refine CW.cond (decide (a > b)) (by kernel_rfl) (by kernel_rfl) (fun c6 => ?_) (fun c6 => ?_)
    ·
      skip
      have d7 := of_decide_eq_true c6
      refine CW.seq ?_
      refine CW.region ?_
      refine WL.q (.int .i64 1) (by kernel_rfl) rfl (by kernel_rfl) (by kernel_rfl) ?_
      refine WL.nil ?_
      refine EX.then_code ?_
      refine CW.ret ?_
      refine EX.ret_then ?_
      refine EX.ret1 (v := (.int .i64 1)) rfl (by kernel_rfl) ?_
      exact Ret.mk (l1.trans l2) G2 (congrArg (Value.int .i64) (cmpI_gt (by omega)).symm)
    ·
      skip
      have d8 := of_decide_eq_false c6
      refine CW.skip ?_
      refine EX.then_code ?_
      refine CW.seq ?_
      refine CW.region ?_
      refine WL.q (.int .i64 0) (by kernel_rfl) rfl (by kernel_rfl) (by kernel_rfl) ?_
      refine WL.nil ?_
      refine EX.then_code ?_
      refine CW.ret ?_
      refine EX.ret1 (v := (.int .i64 0)) rfl (by kernel_rfl) ?_
      exact Ret.mk (l1.trans l2) G2 (congrArg (Value.int .i64) (cmpI_eq (by omega) (by omega)).symm)

theorem atC_spec {K : Key} {w : World} {h M : PH} (G : Wld K w h M) (f : FactD) (id : Int) :
    Calls Tryd.prog 36 #[.agg (factE.enc f).toArray, .int .i64 id] w (Ret K h M fun _ v => v = .int .i64 (cmpI f.id id)) := by
  refine enter (l := [(.agg #[(.int .i64 ((f).id)), (.string ((f).t)), (.slice ((f).a) ((f).vals.length) ((f).c))]), (.int .i64 id)]) Tryd.func36 rfl Tryd.ntmps36 (Nat.le_of_ble_eq_true rfl) ?_
  simp only [params]
  refine CW.seq ?_
  refine CW.region ?_
  refine WL.ex (by kernel_rfl) rfl (by kernel_rfl) (q_newF (ob := (.cells #[(.int .i64 ((f).id)), (.string ((f).t)), (.slice ((f).a) ((f).vals.length) ((f).c))] 55 (0, 0))) G (fun b_ => .pointer (some ⟨b_, 0, none⟩)) (fun u_ => by kernel_rfl)) ?_
  rintro _ w9 ⟨b9, h9, rfl, l9, G9, hb9, L9⟩
  refine WL.q (.int .i64 0) (by kernel_rfl) rfl (by kernel_rfl) (by kernel_rfl) ?_
  refine WL.nil ?_
  refine EX.then_code ?_
  refine CW.seq ?_
  refine CW.region ?_
  refine WL.q (.pointer (some ⟨b9, 0, none⟩)) (by kernel_rfl) rfl (by kernel_rfl) (by kernel_rfl) ?_
  refine WL.q (.int .i64 ((f).id)) (by kernel_rfl) rfl (by kernel_rfl) (q_load (off := 0) rfl (by kernel_rfl) (by kernel_rfl) (G9.imm _ _ ((PH.le_refl _) _ _ hb9)) (by kernel_rfl)) ?_
  refine WL.q (.int .i64 id) (by kernel_rfl) rfl (by kernel_rfl) (by kernel_rfl) ?_
  refine WL.call (by kernel_rfl) rfl (by kernel_rfl) (by kernel_rfl) (cmp_spec G9 ((f).id) id) (Ret.elim ?_)
  rintro w10 h10 _ l10 G10 rfl
  refine WL.q (.int .i64 (cmpI ((f).id) id)) (by kernel_rfl) rfl (by kernel_rfl) (by kernel_rfl) ?_
  refine WL.nil ?_
  refine EX.then_code ?_
  refine CW.ret ?_
  refine EX.ret1 (v := (.int .i64 (cmpI ((f).id) id))) rfl (by kernel_rfl) ?_
  exact Ret.mk (l9.trans l10) G10 rfl

theorem bs_spec {K : Key} {w : World} {h M : PH} (G : Wld K w h M) {M0 Mt : PH} (hM : PH.le Mt M) {a : Option Addr} {row : List FactD} {c : Nat} (own : Own 55 factE M0 Mt a c row) (hb : row.length ≤ 1000000) (hs : row.Pairwise (fun f g => f.id < g.id)) (id : Int) :
    Calls Tryd.prog 35 #[.slice a row.length c, .int .i64 id, .func (.func 36) #[] #[]] w (Ret K h M fun _ v => ∃ p b, v = .tuple #[.int .i64 (p : Nat), .bool b] ∧ p ≤ row.length ∧
      (b = true → p < row.length ∧ (row.getD p factE.dflt).id = id) ∧ (b = false → ∀ f ∈ row, f.id ≠ id)) := by
  refine enter (l := [(.slice a row.length c), (.int .i64 id), (.func (.func 36) #[] #[])]) Tryd.func35 rfl Tryd.ntmps35 (Nat.le_of_ble_eq_true rfl) ?_
  simp only [params]
  refine CW.seq ?_
  refine CW.region ?_
  refine WL.q (.int .i64 0) (by kernel_rfl) rfl (by kernel_rfl) (by kernel_rfl) ?_
  refine WL.q (.bool false) (by kernel_rfl) rfl (by kernel_rfl) (by kernel_rfl) ?_
  refine WL.nil ?_
  refine EX.then_code ?_
  refine CW.seq ?_
  refine CW.region ?_
  refine WL.q (.slice a row.length c) (by kernel_rfl) rfl (by kernel_rfl) (by kernel_rfl) ?_
  refine WL.q (.int .i64 (row.length : Int)) (by kernel_rfl) rfl (by kernel_rfl) (by kernel_rfl) ?_
  refine WL.q (.int .i64 (row.length : Int)) (by kernel_rfl) rfl (by kernel_rfl) (by kernel_rfl) ?_
  refine WL.nil ?_
  refine EX.then_code ?_
  refine CW.seq ?_
  refine CW.region ?_
  refine WL.q (.int .i64 (row.length : Int)) (by kernel_rfl) rfl (by kernel_rfl) (by kernel_rfl) ?_
  refine WL.q (.int .i64 0) (by kernel_rfl) rfl (by kernel_rfl) (by kernel_rfl) ?_
  refine WL.q (.int .i64 (row.length : Int)) (by kernel_rfl) rfl (by kernel_rfl) (by kernel_rfl) ?_
  refine WL.nil ?_
  refine EX.then_code ?_
  refine CW.seq ?_
  refine CW.block ?_
  refine CW.loop (β := Nat × Nat) (fun x_ => [(0, (.slice a row.length c)), (1, (.int .i64 id)), (2, (.func (.func 36) #[] #[])), (6, (.int .i64 0)), (7, (.bool false)), (8, (.int .i64 (row.length : Int))), (9, (.int .i64 (x_.1 : Int))), (10, (.int .i64 (x_.2 : Int)))]) (fun x_ w_ => ∃ h_, (PH.le h h_) ∧ (Wld K w_ h_ M) ∧ (x_.1 ≤ x_.2) ∧ (x_.2 ≤ row.length) ∧ (∀ k < x_.1, (row.getD k factE.dflt).id < id) ∧ (∀ k, x_.2 ≤ k → k < row.length → id ≤ (row.getD k factE.dflt).id)) (fun x_ => x_.2 - x_.1) ⟨0, row.length⟩ ⟨(by kernel_rfl), (by kernel_rfl), (by kernel_rfl), (by kernel_rfl), (by kernel_rfl), (by kernel_rfl), (lk_int (x := 0) (by kernel_rfl) (by first | omega | (dsimp only; done) | (dsimp only; omega))), (by kernel_rfl), trivial⟩ ⟨h, (PH.le_refl _), G, (by first | omega | assumption | (dsimp only [List.length_nil, List.length_append, List.length_cons]; omega)), (by first | omega | assumption | (dsimp only [List.length_nil, List.length_append, List.length_cons]; omega)), (fun k hk => absurd hk (Nat.not_lt_zero _)), (fun k hk hk2 => absurd hk2 (by omega))⟩ ?_
  rintro ⟨i, j⟩ w11 ⟨h11, l11, G11, hij, hj, h1, h2⟩
  try dsimp only at *
  refine CW.seq ?_
  refine CW.seq ?_
  refine CW.region ?_
  refine WL.q (.int .i64 (i : Int)) (by kernel_rfl) rfl (by kernel_rfl) (by kernel_rfl) ?_
  refine WL.q (.int .i64 (j : Int)) (by kernel_rfl) rfl (by kernel_rfl) (by kernel_rfl) ?_
  refine WL.q (.bool (decide ((i : Int) < (j : Int)))) (by kernel_rfl) rfl (by kernel_rfl) (by kernel_rfl) ?_
  refine WL.nil ?_
  refine EX.then_code ?_
  refine CW.cond (decide ((i : Int) < (j : Int))) (by kernel_rfl) (by kernel_rfl) (fun c12 => ?_) (fun c12 => ?_)
  ·
    skip
    have d13 := of_decide_eq_true c12
    refine CW.skip ?_
    refine EX.then_code ?_
    refine CW.block ?_
    refine CW.seq ?_
    refine CW.region ?_
    refine WL.q (.int .i64 (i : Int)) (by kernel_rfl) rfl (by kernel_rfl) (by kernel_rfl) ?_
    refine WL.q (.int .i64 (j : Int)) (by kernel_rfl) rfl (by kernel_rfl) (by kernel_rfl) ?_
    refine WL.q (.int .i64 ((i + j : Nat) : Int)) (by kernel_rfl) rfl (by kernel_rfl) (q_int (x := IntKind.i64.wrap ((i : Int) + (j : Int))) (by kernel_rfl) (wrap_to (by omega) (by omega) (by omega))) ?_
    refine WL.q (.int .u64 ((i + j : Nat) : Int)) (by kernel_rfl) rfl (by kernel_rfl) (q_int (by kernel_rfl) (wrap_u64 (by omega) (by omega))) ?_
    refine WL.q (.int .u64 (((i + j) / 2 : Nat) : Int)) (by kernel_rfl) rfl (by kernel_rfl) (q_shr (yk := .u64) (n := (i + j)) (m := 1) (p := 2) rfl (by kernel_rfl) (by kernel_rfl) (by decide) (by decide)) ?_
    refine WL.q (.int .i64 (((i + j) / 2 : Nat) : Int)) (by kernel_rfl) rfl (by kernel_rfl) (q_int (by kernel_rfl) (wrap_i64 (by omega) (by omega))) ?_
    refine WL.q (.int .i64 (((i + j) / 2 : Nat) : Int)) (by kernel_rfl) rfl (by kernel_rfl) (by kernel_rfl) ?_
    refine WL.nil ?_
    refine EX.then_code ?_
    refine CW.seq ?_
    refine CW.region ?_
    refine WL.q (.func (.func 36) #[] #[]) (by kernel_rfl) rfl (by kernel_rfl) (by kernel_rfl) ?_
    refine WL.q (.slice a row.length c) (by kernel_rfl) rfl (by kernel_rfl) (by kernel_rfl) ?_
    refine WL.q (.int .i64 (((i + j) / 2 : Nat) : Int)) (by kernel_rfl) rfl (by kernel_rfl) (by kernel_rfl) ?_
    refine WL.q (eptr a (((i + j) / 2) * factE.sz)) (by kernel_rfl) rfl (by kernel_rfl) (q_indexAddr (i := ((i + j) / 2)) (E := factE) (xs := row) (e := 55) (c := c) (k := .i64) (m := row.length) rfl rfl (by kernel_rfl) (by kernel_rfl) (by kernel_rfl) (own.reads.mono (hM.trans G11.own)) (by omega)) ?_
    refine WL.q (.agg #[(.int .i64 (((row.getD ((i + j) / 2) factE.dflt)).id)), (.string (((row.getD ((i + j) / 2) factE.dflt)).t)), (.slice (((row.getD ((i + j) / 2) factE.dflt)).a) (((row.getD ((i + j) / 2) factE.dflt)).vals.length) (((row.getD ((i + j) / 2) factE.dflt)).c))]) (by kernel_rfl) rfl (by kernel_rfl) (q_val (q_loadAgg_e (i := ((i + j) / 2)) (E := factE) rfl (by kernel_rfl) (by kernel_rfl) (own.reads.mono (hM.trans G11.own)) (by omega)) (by kernel_rfl)) ?_
    refine WL.q (.int .i64 id) (by kernel_rfl) rfl (by kernel_rfl) (by kernel_rfl) ?_
    refine WL.call (by kernel_rfl) rfl (by kernel_rfl) (by kernel_rfl) (atC_spec G11 ((row.getD ((i + j) / 2) factE.dflt)) id) (Ret.elim ?_)
    rintro w14 h14 _ l14 G14 rfl
    refine WL.q (.bool (decide ((cmpI ((row.getD ((i + j) / 2) factE.dflt)).id id) < 0))) (by kernel_rfl) rfl (by kernel_rfl) (by kernel_rfl) ?_
    refine WL.nil ?_
    refine EX.then_code ?_
    refine CW.cond (decide ((cmpI ((row.getD ((i + j) / 2) factE.dflt)).id id) < 0)) (by kernel_rfl) (by kernel_rfl) (fun c15 => ?_) (fun c15 => ?_)
    ·
      skip
      have d16 := of_decide_eq_true c15
      refine CW.region ?_
      refine WL.q (.int .i64 (((i + j) / 2 : Nat) : Int)) (by kernel_rfl) rfl (by kernel_rfl) (by kernel_rfl) ?_
      refine WL.q (.int .i64 ((((i + j) / 2) + 1 : Nat) : Int)) (by kernel_rfl) rfl (by kernel_rfl) (q_int (x := IntKind.i64.wrap ((((i + j) / 2 : Nat) : Int) + 1)) (by kernel_rfl) (wrap_to (by omega) (by omega) (by omega))) ?_
      refine WL.q (.int .i64 ((((i + j) / 2) + 1 : Nat) : Int)) (by kernel_rfl) rfl (by kernel_rfl) (by kernel_rfl) ?_
      refine WL.nil ?_
      refine EX.in_block ?_
      exact EX.then_loop ⟨(i + j) / 2 + 1, j⟩ ⟨(by kernel_rfl), (by kernel_rfl), (by kernel_rfl), (by kernel_rfl), (by kernel_rfl), (by kernel_rfl), (lk_int (x := ((((i + j) / 2) + 1 : Nat) : Int)) (by kernel_rfl) (by first | omega | (dsimp only; done) | (dsimp only; omega))), (by kernel_rfl), trivial⟩ ⟨h14, (l11.trans l14), G14, (by first | omega | assumption | (dsimp only [List.length_nil, List.length_append, List.length_cons]; omega)), (by first | omega | assumption | (dsimp only [List.length_nil, List.length_append, List.length_cons]; omega)), (search_up hs (by omega) (cmpI_neg.1 (by omega))), h2⟩ (by first | omega | (dsimp only; omega))
    ·
      skip
      have d17 := of_decide_eq_false c15
      refine CW.region ?_
      refine WL.q (.int .i64 (((i + j) / 2 : Nat) : Int)) (by kernel_rfl) rfl (by kernel_rfl) (by kernel_rfl) ?_
      refine WL.q (.int .i64 (((i + j) / 2 : Nat) : Int)) (by kernel_rfl) rfl (by kernel_rfl) (by kernel_rfl) ?_
      refine WL.nil ?_
      refine EX.in_block ?_
      exact EX.then_loop ⟨i, (i + j) / 2⟩ ⟨(by kernel_rfl), (by kernel_rfl), (by kernel_rfl), (by kernel_rfl), (by kernel_rfl), (by kernel_rfl), (by kernel_rfl), (lk_int (x := (((i + j) / 2 : Nat) : Int)) (by kernel_rfl) (by first | omega | (dsimp only; done) | (dsimp only; omega))), trivial⟩ ⟨h14, (l11.trans l14), G14, (by first | omega | assumption | (dsimp only [List.length_nil, List.length_append, List.length_cons]; omega)), (by first | omega | assumption | (dsimp only [List.length_nil, List.length_append, List.length_cons]; omega)), h1, (search_down hs (by omega) (fun q_ => absurd (cmpI_neg.2 q_) (by omega)))⟩ (by first | omega | (dsimp only; omega))
  ·
    skip
    have d18 := of_decide_eq_false c12
    refine CW.exit ?_
    refine EX.exit_then ?_
    refine EX.exit_then ?_
    refine EX.exit_here ?_
    refine EX.then_code ?_
    refine CW.seq ?_
    refine CW.region ?_
    refine WL.q (.int .i64 (i : Int)) (by kernel_rfl) rfl (by kernel_rfl) (by kernel_rfl) ?_
    refine WL.q (.int .i64 (i : Int)) (by kernel_rfl) rfl (by kernel_rfl) (by kernel_rfl) ?_
    refine WL.q (.int .i64 (row.length : Int)) (by kernel_rfl) rfl (by kernel_rfl) (by kernel_rfl) ?_
    refine WL.q (.bool (decide ((i : Int) < (row.length : Int)))) (by kernel_rfl) rfl (by kernel_rfl) (by kernel_rfl) ?_
    refine WL.q (.bool (decide ((i : Int) < (row.length : Int)))) (by kernel_rfl) rfl (by kernel_rfl) (by kernel_rfl) ?_
    rcases bool_cases (decide ((i : Int) < (row.length : Int))) with c19 | c19
    ·
      skip
      have d20 := of_decide_eq_true c19
      refine WL.know 39 (.bool true) (x := .bool (decide ((i : Int) < (row.length : Int)))) (by kernel_rfl) (congrArg Value.bool c19) ?_
      refine WL.q (.func (.func 36) #[] #[]) (by kernel_rfl) rfl (by kernel_rfl) (by kernel_rfl) ?_
      refine WL.q (.slice a row.length c) (by kernel_rfl) rfl (by kernel_rfl) (by kernel_rfl) ?_
      refine WL.q (.int .i64 (i : Int)) (by kernel_rfl) rfl (by kernel_rfl) (by kernel_rfl) ?_
      refine WL.q (eptr a (i * factE.sz)) (by kernel_rfl) rfl (by kernel_rfl) (q_indexAddr (i := i) (E := factE) (xs := row) (e := 55) (c := c) (k := .i64) (m := row.length) rfl rfl (by kernel_rfl) (by kernel_rfl) (by kernel_rfl) (own.reads.mono (hM.trans G11.own)) (by omega)) ?_
      refine WL.q (.agg #[(.int .i64 (((row.getD i factE.dflt)).id)), (.string (((row.getD i factE.dflt)).t)), (.slice (((row.getD i factE.dflt)).a) (((row.getD i factE.dflt)).vals.length) (((row.getD i factE.dflt)).c))]) (by kernel_rfl) rfl (by kernel_rfl) (q_val (q_loadAgg_e (i := i) (E := factE) rfl (by kernel_rfl) (by kernel_rfl) (own.reads.mono (hM.trans G11.own)) (by omega)) (by kernel_rfl)) ?_
      refine WL.q (.int .i64 id) (by kernel_rfl) rfl (by kernel_rfl) (by kernel_rfl) ?_
      refine WL.call (by kernel_rfl) rfl (by kernel_rfl) (by kernel_rfl) (atC_spec G11 ((row.getD i factE.dflt)) id) (Ret.elim ?_)
      rintro w21 h21 _ l21 G21 rfl
      refine WL.q (.bool (((cmpI ((row.getD i factE.dflt)).id id) : Int) == 0)) (by kernel_rfl) rfl (by kernel_rfl) (by kernel_rfl) ?_
      refine WL.q (.bool (((cmpI ((row.getD i factE.dflt)).id id) : Int) == 0)) (by kernel_rfl) rfl (by kernel_rfl) (by kernel_rfl) ?_
      refine WL.q (.int .i64 (i : Int)) (by kernel_rfl) rfl (by kernel_rfl) (by kernel_rfl) ?_
      refine WL.q (.bool (((cmpI ((row.getD i factE.dflt)).id id) : Int) == 0)) (by kernel_rfl) rfl (by kernel_rfl) (by kernel_rfl) ?_
      refine WL.nil ?_
      refine EX.then_code ?_
      refine CW.ret ?_
      refine EX.ret2 (v := (.int .i64 (i : Int))) (x := (.bool (((cmpI ((row.getD i factE.dflt)).id id) : Int) == 0))) rfl (by kernel_rfl) (by kernel_rfl) ?_
      obtain rfl : i = j := by omega
      exact Ret.mk (l11.trans l21) G21 ⟨i, _, rfl, by omega, fun e_ => ⟨by omega, cmpI_zero.1 (eq_of_beq e_)⟩, fun e_ => at_no hs (by omega) h1 h2 (fun q_ => by rw [cmpI_zero.2 q_.2] at e_; cases e_)⟩
    ·
      skip
      have d22 := of_decide_eq_false c19
      refine WL.know 39 (.bool false) (x := .bool (decide ((i : Int) < (row.length : Int)))) (by kernel_rfl) (congrArg Value.bool c19) ?_
      refine WL.skip (by kernel_rfl) rfl (by kernel_rfl) ?_
      refine WL.skip (by kernel_rfl) rfl (by kernel_rfl) ?_
      refine WL.skip (by kernel_rfl) rfl (by kernel_rfl) ?_
      refine WL.skip (by kernel_rfl) rfl (by kernel_rfl) ?_
      refine WL.skip (by kernel_rfl) rfl (by kernel_rfl) ?_
      refine WL.skip (by kernel_rfl) rfl (by kernel_rfl) ?_
      refine WL.skip (by kernel_rfl) rfl (by kernel_rfl) ?_
      refine WL.skip (by kernel_rfl) rfl (by kernel_rfl) ?_
      refine WL.q (.bool false) (by kernel_rfl) rfl (by kernel_rfl) (by kernel_rfl) ?_
      refine WL.q (.int .i64 (i : Int)) (by kernel_rfl) rfl (by kernel_rfl) (by kernel_rfl) ?_
      refine WL.q (.bool false) (by kernel_rfl) rfl (by kernel_rfl) (by kernel_rfl) ?_
      refine WL.nil ?_
      refine EX.then_code ?_
      refine CW.ret ?_
      refine EX.ret2 (v := (.int .i64 (i : Int))) (x := (.bool false)) rfl (by kernel_rfl) (by kernel_rfl) ?_
      obtain rfl : i = j := by omega
      exact Ret.mk l11 G11 ⟨i, false, rfl, by omega, fun e_ => absurd e_ (by decide), fun _ => at_no hs (by omega) h1 h2 (fun q_ => absurd q_.1 (by omega))⟩
end Go.Proofs
