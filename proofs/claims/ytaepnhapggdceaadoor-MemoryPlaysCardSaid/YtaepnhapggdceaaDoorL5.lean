import Derived.Test.YtaepnhapggdceaaDoorPm
import Derived.Test.YtaepnhapggdceaaDoorKd
namespace Go.Proofs
open Go Go.Wk
set_option maxHeartbeats 1000000 in
theorem plays_spec {K : Key} {w : World} {h M : PH} (G : Wld K w h M) (T : Tab Tryd.prog h) {a : Option Addr} {l : List ActD} {c : Nat} (Hl : RS h actE a l) (Gl : ∀ x ∈ l, actG h x) (hc : l.length ≤ 9223372036854775807) :
    Calls Tryd.prog 6 #[.slice a l.length c] w (Ret K h M fun _ v => v = .bool true) := by
  refine enter (l := [(.slice a l.length c)]) Tryd.func6 rfl Tryd.ntmps6 (Nat.le_of_ble_eq_true rfl) ?_
  simp only [params]
  refine CW.seq ?_
  refine CW.region ?_
  refine WL.q (.bool false) (by kernel_rfl) rfl (by kernel_rfl) (by kernel_rfl) ?_
  refine WL.nil ?_
  refine EX.then_code ?_
  refine CW.seq ?_
  refine CW.seq ?_
  refine CW.region ?_
  refine WL.call (by kernel_rfl) rfl (by kernel_rfl) (by kernel_rfl) (known_spec G (T.mono (PH.le_refl _))) (Ret.elim ?_)
  rintro w1 h1 _ l1 G1 rfl
  refine WL.q (.bool false) (by kernel_rfl) rfl (by kernel_rfl) (by kernel_rfl) ?_
  refine WL.nil ?_
  refine EX.then_code ?_
  refine CW.cond_f (by kernel_rfl) (by kernel_rfl) ?_
  refine CW.skip ?_
  refine EX.then_code ?_
  refine CW.seq ?_
  refine CW.seq ?_
  refine CW.region ?_
  refine WL.q (.slice a l.length c) (by kernel_rfl) rfl (by kernel_rfl) (by kernel_rfl) ?_
  refine WL.q (.int .i64 (l.length : Int)) (by kernel_rfl) rfl (by kernel_rfl) (by kernel_rfl) ?_
  refine WL.q (.bool (decide ((l.length : Int) > 100))) (by kernel_rfl) rfl (by kernel_rfl) (by kernel_rfl) ?_
  refine WL.nil ?_
  refine EX.then_code ?_
  refine CW.cond (decide ((l.length : Int) > 100)) (by kernel_rfl) (by kernel_rfl) (fun c2 => ?_) (fun c2 => ?_)
  ·
    skip
    have d3 := of_decide_eq_true c2
    refine CW.seq ?_
    refine CW.region ?_
    refine WL.q (.bool true) (by kernel_rfl) rfl (by kernel_rfl) (by kernel_rfl) ?_
    refine WL.nil ?_
    refine EX.then_code ?_
    refine CW.ret ?_
    refine EX.ret_then ?_
    refine EX.ret1 (v := (.bool true)) rfl (by kernel_rfl) ?_
    exact Ret.mk l1 G1 rfl
  ·
    skip
    have d4 := of_decide_eq_false c2
    refine CW.skip ?_
    refine EX.then_code ?_
    refine CW.seq ?_
    refine CW.region ?_
    refine WL.call (by kernel_rfl) rfl (by kernel_rfl) (by kernel_rfl) (newA G1) (RetM.elim ?_)
    rintro w5 h5 M5 _ l5 G5 ⟨p5, rfl, A5⟩
    refine WL.q (.pointer (some ⟨p5, 0, none⟩)) (by kernel_rfl) rfl (by kernel_rfl) (by kernel_rfl) ?_
    refine WL.nil ?_
    refine EX.then_code ?_
    refine CW.seq ?_
    refine CW.region ?_
    refine WL.q (.slice none 0 0) (by kernel_rfl) rfl (by kernel_rfl) (by kernel_rfl) ?_
    refine WL.nil ?_
    refine EX.then_code ?_
    refine CW.seq ?_
    refine CW.region ?_
    refine WL.q (.int .i64 1) (by kernel_rfl) rfl (by kernel_rfl) (by kernel_rfl) ?_
    refine WL.nil ?_
    refine EX.then_code ?_
    refine CW.seq ?_
    refine CW.seq ?_
    refine CW.region ?_
    refine WL.q (.int .i64 0) (by kernel_rfl) rfl (by kernel_rfl) (by kernel_rfl) ?_
    refine WL.nil ?_
    refine EX.then_code ?_
    refine CW.block ?_
    refine CW.loop (β := Nat × Nat × List FactD × Option Addr × Nat × Int) (fun x_ => [(0, (.slice a l.length c)), (3, (.pointer (some ⟨x_.2.1, 0, none⟩))), (4, (.slice x_.2.2.2.1 x_.2.2.1.length x_.2.2.2.2.1)), (5, (.int .i64 x_.2.2.2.2.2)), (6, (.int .i64 (x_.1 : Int)))]) (fun x_ w_ => ∃ h_ M0_, (PH.le h5 h_) ∧ (Wld K w_ h_ M0_) ∧ (MemA h_ x_.2.1 (x_.2.2.1.map dat) x_.2.2.2.2.2 M M0_) ∧ (RS h_ factE x_.2.2.2.1 x_.2.2.1) ∧ (∀ e_ ∈ x_.2.2.1, factG h_ e_) ∧ (x_.1 ≤ l.length) ∧ (x_.2.2.1.length ≤ x_.1) ∧ (x_.2.2.1.length ≤ x_.2.2.2.2.1) ∧ (1 ≤ x_.2.2.2.2.2 ∧ x_.2.2.2.2.2 ≤ (x_.1 : Int) + 1)) (fun x_ => l.length - x_.1) ⟨0, p5, [], none, 0, 1⟩ ⟨(by kernel_rfl), (by kernel_rfl), (by kernel_rfl), (by kernel_rfl), (lk_int (x := 0) (by kernel_rfl) (by first | omega | (dsimp only; omega) | rfl | (dsimp only; rfl))), trivial⟩ ⟨h5, M5, (PH.le_refl _), G5, A5, (RS.nil _ _ _), all_nil, (by first | omega | assumption | (dsimp only [List.length_nil, List.length_append, List.length_cons]; omega)), (Nat.le_refl _), (Nat.le_refl _), (by dsimp only; omega)⟩ ?_
    rintro ⟨i, p, fs, ao, co, nx⟩ w6 ⟨h6, M0_6, l6, G6, o_mem6, f_row6, fg_row6, hi, hfl, hfc, hnx⟩
    try dsimp only at *
    refine CW.seq ?_
    refine CW.seq ?_
    refine CW.region ?_
    refine WL.q (.int .i64 (i : Int)) (by kernel_rfl) rfl (by kernel_rfl) (by kernel_rfl) ?_
    refine WL.q (.slice a l.length c) (by kernel_rfl) rfl (by kernel_rfl) (by kernel_rfl) ?_
    refine WL.q (.int .i64 (l.length : Int)) (by kernel_rfl) rfl (by kernel_rfl) (by kernel_rfl) ?_
    refine WL.q (.bool (decide ((i : Int) < (l.length : Int)))) (by kernel_rfl) rfl (by kernel_rfl) (by kernel_rfl) ?_
    refine WL.nil ?_
    refine EX.then_code ?_
    refine CW.cond (decide ((i : Int) < (l.length : Int))) (by kernel_rfl) (by kernel_rfl) (fun c7 => ?_) (fun c7 => ?_)
    ·
      skip
      have d8 := of_decide_eq_true c7
      refine CW.skip ?_
      refine EX.then_code ?_
      refine CW.seq ?_
      refine CW.block ?_
      refine CW.seq ?_
      refine CW.region ?_
      refine WL.q (.slice a l.length c) (by kernel_rfl) rfl (by kernel_rfl) (by kernel_rfl) ?_
      refine WL.q (.int .i64 (i : Int)) (by kernel_rfl) rfl (by kernel_rfl) (by kernel_rfl) ?_
      refine WL.q (eptr a (i * actE.sz)) (by kernel_rfl) rfl (by kernel_rfl) (q_indexAddr (i := i) (E := actE) (xs := l) (e := 50) (c := c) (k := .i64) (m := l.length) rfl rfl (by kernel_rfl) (by kernel_rfl) (by kernel_rfl) (Hl.mono (((l1.trans l5).trans l6).trans G6.imm)) (by omega)) ?_
      refine WL.q (.agg #[(.int .i64 (((l.getD i actE.dflt)).op)), (.int .i64 (((l.getD i actE.dflt)).id)), (.string (((l.getD i actE.dflt)).t)), (.slice (((l.getD i actE.dflt)).a) (((l.getD i actE.dflt)).vals.length) (((l.getD i actE.dflt)).c))]) (by kernel_rfl) rfl (by kernel_rfl) (q_val (q_loadAgg_e (i := i) (E := actE) rfl (by kernel_rfl) (by kernel_rfl) (Hl.mono (((l1.trans l5).trans l6).trans G6.imm)) (by omega)) (by kernel_rfl)) ?_
      refine WL.ex (by kernel_rfl) rfl (by kernel_rfl) (q_newB (ob := (.cells #[(.int .i64 0), (.int .i64 0), (.string (ByteArray.mk #[])), (.slice none 0 0)] 50 (0, 0))) G6 (fun b_ => .pointer (some ⟨b_, 0, none⟩)) (fun u_ => by kernel_rfl)) ?_
      rintro _ w9 ⟨b9, M9, rfl, G9, B9, L9⟩
      refine WL.exu (by kernel_rfl) rfl (by kernel_rfl) (q_storeB (off := 0) (et := 50) (v := (.agg #[(.int .i64 (((l.getD i actE.dflt)).op)), (.int .i64 (((l.getD i actE.dflt)).id)), (.string (((l.getD i actE.dflt)).t)), (.slice (((l.getD i actE.dflt)).a) (((l.getD i actE.dflt)).vals.length) (((l.getD i actE.dflt)).c))])) (vs := [(.int .i64 (((l.getD i actE.dflt)).op)), (.int .i64 (((l.getD i actE.dflt)).id)), (.string (((l.getD i actE.dflt)).t)), (.slice (((l.getD i actE.dflt)).a) (((l.getD i actE.dflt)).vals.length) (((l.getD i actE.dflt)).c))]) #[(.int .i64 (((l.getD i actE.dflt)).op)), (.int .i64 (((l.getD i actE.dflt)).id)), (.string (((l.getD i actE.dflt)).t)), (.slice (((l.getD i actE.dflt)).a) (((l.getD i actE.dflt)).vals.length) (((l.getD i actE.dflt)).c))] G9 B9 rfl (by kernel_rfl) (by kernel_rfl) (by kernel_rfl) (by kernel_rfl) (by simp [Value.oneCell']) (by simp) (by kernel_rfl)) ?_
      rintro w10 ⟨M10, G10, B10⟩
      obtain ⟨h11, l11, G11, hb11⟩ := B10.freeze G10
      refine WL.nil ?_
      refine EX.then_code ?_
      refine CW.seq ?_
      refine CW.seq ?_
      refine CW.region ?_
      refine WL.q (.pointer (some ⟨b9, 3, none⟩)) (by kernel_rfl) rfl (by kernel_rfl) (by kernel_rfl) ?_
      refine WL.q (.slice (((l.getD i actE.dflt)).a) (((l.getD i actE.dflt)).vals.length) (((l.getD i actE.dflt)).c)) (by kernel_rfl) rfl (by kernel_rfl) (q_load (off := 3) rfl (by kernel_rfl) (by kernel_rfl) (G11.imm _ _ ((PH.le_refl _) _ _ hb11)) (by kernel_rfl)) ?_
      refine WL.q (.int .i64 (((l.getD i actE.dflt)).vals.length : Int)) (by kernel_rfl) rfl (by kernel_rfl) (by kernel_rfl) ?_
      refine WL.q (.bool (decide ((((l.getD i actE.dflt)).vals.length : Int) > 10))) (by kernel_rfl) rfl (by kernel_rfl) (by kernel_rfl) ?_
      refine WL.q (.bool (decide ((((l.getD i actE.dflt)).vals.length : Int) > 10))) (by kernel_rfl) rfl (by kernel_rfl) (by kernel_rfl) ?_
      rcases bool_cases (decide ((((l.getD i actE.dflt)).vals.length : Int) > 10)) with c12 | c12
      ·
        skip
        have d13 := of_decide_eq_true c12
        refine WL.know 46 (.bool true) (x := .bool (decide ((((l.getD i actE.dflt)).vals.length : Int) > 10))) (by kernel_rfl) (congrArg Value.bool c12) ?_
        refine WL.skip (by kernel_rfl) rfl (by kernel_rfl) ?_
        refine WL.skip (by kernel_rfl) rfl (by kernel_rfl) ?_
        refine WL.skip (by kernel_rfl) rfl (by kernel_rfl) ?_
        refine WL.skip (by kernel_rfl) rfl (by kernel_rfl) ?_
        refine WL.q (.bool true) (by kernel_rfl) rfl (by kernel_rfl) (by kernel_rfl) ?_
        refine WL.nil ?_
        refine EX.then_code ?_
        refine CW.cond_t (by kernel_rfl) (by kernel_rfl) ?_
        refine CW.seq ?_
        refine CW.region ?_
        refine WL.q (.bool true) (by kernel_rfl) rfl (by kernel_rfl) (by kernel_rfl) ?_
        refine WL.nil ?_
        refine EX.then_code ?_
        refine CW.ret ?_
        refine EX.ret_then ?_
        refine EX.ret_block ?_
        refine EX.ret_then ?_
        refine EX.ret_then ?_
        refine EX.ret_block ?_
        refine EX.ret_then ?_
        refine EX.ret1 (v := (.bool true)) rfl (by kernel_rfl) ?_
        exact Ret.mk (((l1.trans l5).trans l6).trans l11) (G11.drop (Ly.le (Ly.memA h6 p (fs.map dat) nx) o_mem6)) rfl
      ·
        skip
        have d14 := of_decide_eq_false c12
        refine WL.know 46 (.bool false) (x := .bool (decide ((((l.getD i actE.dflt)).vals.length : Int) > 10))) (by kernel_rfl) (congrArg Value.bool c12) ?_
        refine WL.q (.pointer (some ⟨b9, 2, none⟩)) (by kernel_rfl) rfl (by kernel_rfl) (by kernel_rfl) ?_
        refine WL.q (.string (((l.getD i actE.dflt)).t)) (by kernel_rfl) rfl (by kernel_rfl) (q_load (off := 2) rfl (by kernel_rfl) (by kernel_rfl) (G11.imm _ _ ((PH.le_refl _) _ _ hb11)) (by kernel_rfl)) ?_
        refine WL.q (.int .i64 ((((l.getD i actE.dflt)).t).size : Int)) (by kernel_rfl) rfl (by kernel_rfl) (by kernel_rfl) ?_
        refine WL.q (.bool (decide (((((l.getD i actE.dflt)).t).size : Int) > 50))) (by kernel_rfl) rfl (by kernel_rfl) (by kernel_rfl) ?_
        refine WL.q (.bool (decide (((((l.getD i actE.dflt)).t).size : Int) > 50))) (by kernel_rfl) rfl (by kernel_rfl) (by kernel_rfl) ?_
        refine WL.nil ?_
        refine EX.then_code ?_
        refine CW.cond (decide (((((l.getD i actE.dflt)).t).size : Int) > 50)) (by kernel_rfl) (by kernel_rfl) (fun c15 => ?_) (fun c15 => ?_)
        ·
          skip
          have d16 := of_decide_eq_true c15
          refine CW.seq ?_
          refine CW.region ?_
          refine WL.q (.bool true) (by kernel_rfl) rfl (by kernel_rfl) (by kernel_rfl) ?_
          refine WL.nil ?_
          refine EX.then_code ?_
          refine CW.ret ?_
          refine EX.ret_then ?_
          refine EX.ret_block ?_
          refine EX.ret_then ?_
          refine EX.ret_then ?_
          refine EX.ret_block ?_
          refine EX.ret_then ?_
          refine EX.ret1 (v := (.bool true)) rfl (by kernel_rfl) ?_
          exact Ret.mk (((l1.trans l5).trans l6).trans l11) (G11.drop (Ly.le (Ly.memA h6 p (fs.map dat) nx) o_mem6)) rfl
        ·
          skip
          have d17 := of_decide_eq_false c15
          refine CW.skip ?_
          refine EX.then_code ?_
          refine CW.seq ?_
          refine CW.seq ?_
          refine CW.region ?_
          refine WL.q (.int .i64 0) (by kernel_rfl) rfl (by kernel_rfl) (by kernel_rfl) ?_
          refine WL.nil ?_
          refine EX.then_code ?_
          refine CW.block ?_
          refine CW.loop (β := Nat) (fun x_ => [(0, (.slice a l.length c)), (3, (.pointer (some ⟨p, 0, none⟩))), (4, (.slice ao fs.length co)), (5, (.int .i64 nx)), (6, (.int .i64 (i : Int))), (7, (.pointer (some ⟨b9, 0, none⟩))), (8, (.int .i64 (x_ : Int)))]) (fun x_ w_ => ∃ h_, (PH.le h11 h_) ∧ (Wld K w_ h_ M0_6) ∧ (x_ ≤ (l.getD i actE.dflt).vals.length) ∧ (∀ j < x_, ((l.getD i actE.dflt).vals.getD j valE.dflt).s.size ≤ 1000)) (fun x_ => (l.getD i actE.dflt).vals.length - x_) 0 ⟨(by kernel_rfl), (by kernel_rfl), (by kernel_rfl), (by kernel_rfl), (by kernel_rfl), (by kernel_rfl), (lk_int (x := 0) (by kernel_rfl) (by first | omega | (dsimp only; omega) | rfl | (dsimp only; rfl))), trivial⟩ ⟨h11, (PH.le_refl _), G11, (by first | omega | assumption | (dsimp only [List.length_nil, List.length_append, List.length_cons]; omega)), (by simp)⟩ ?_
          rintro k w18 ⟨h18, l18, G18, hk, hr⟩
          try dsimp only at *
          refine CW.seq ?_
          refine CW.seq ?_
          refine CW.region ?_
          refine WL.q (.int .i64 (k : Int)) (by kernel_rfl) rfl (by kernel_rfl) (by kernel_rfl) ?_
          refine WL.q (.pointer (some ⟨b9, 3, none⟩)) (by kernel_rfl) rfl (by kernel_rfl) (by kernel_rfl) ?_
          refine WL.q (.slice (((l.getD i actE.dflt)).a) (((l.getD i actE.dflt)).vals.length) (((l.getD i actE.dflt)).c)) (by kernel_rfl) rfl (by kernel_rfl) (q_load (off := 3) rfl (by kernel_rfl) (by kernel_rfl) (G18.imm _ _ (l18 _ _ hb11)) (by kernel_rfl)) ?_
          refine WL.q (.int .i64 (((l.getD i actE.dflt)).vals.length : Int)) (by kernel_rfl) rfl (by kernel_rfl) (by kernel_rfl) ?_
          refine WL.q (.bool (decide ((k : Int) < (((l.getD i actE.dflt)).vals.length : Int)))) (by kernel_rfl) rfl (by kernel_rfl) (by kernel_rfl) ?_
          refine WL.nil ?_
          refine EX.then_code ?_
          refine CW.cond (decide ((k : Int) < (((l.getD i actE.dflt)).vals.length : Int))) (by kernel_rfl) (by kernel_rfl) (fun c19 => ?_) (fun c19 => ?_)
          ·
            skip
            have d20 := of_decide_eq_true c19
            refine CW.skip ?_
            refine EX.then_code ?_
            refine CW.seq ?_
            refine CW.block ?_
            refine CW.seq ?_
            refine CW.region ?_
            refine WL.q (.pointer (some ⟨b9, 3, none⟩)) (by kernel_rfl) rfl (by kernel_rfl) (by kernel_rfl) ?_
            refine WL.q (.slice (((l.getD i actE.dflt)).a) (((l.getD i actE.dflt)).vals.length) (((l.getD i actE.dflt)).c)) (by kernel_rfl) rfl (by kernel_rfl) (q_load (off := 3) rfl (by kernel_rfl) (by kernel_rfl) (G18.imm _ _ (l18 _ _ hb11)) (by kernel_rfl)) ?_
            refine WL.q (.int .i64 (k : Int)) (by kernel_rfl) rfl (by kernel_rfl) (by kernel_rfl) ?_
            refine WL.q (eptr (((l.getD i actE.dflt)).a) (k * valE.sz)) (by kernel_rfl) rfl (by kernel_rfl) (q_indexAddr (i := k) (E := valE) (xs := (((l.getD i actE.dflt)).vals)) (e := 29) (c := (((l.getD i actE.dflt)).c)) (k := .i64) (m := (((l.getD i actE.dflt)).vals.length)) rfl rfl (by kernel_rfl) (by kernel_rfl) (by kernel_rfl) (((Gl (l.getD i actE.dflt) (getD_mem (d := actE.dflt) (show i < l.length from (by omega))))).1.mono (((((l1.trans l5).trans l6).trans l11).trans l18).trans G18.imm)) (by omega)) ?_
            refine WL.q (.agg #[(.int .i64 ((((((l.getD i actE.dflt)).vals).getD k valE.dflt)).k)), (.int .i64 ((((((l.getD i actE.dflt)).vals).getD k valE.dflt)).i)), (.string ((((((l.getD i actE.dflt)).vals).getD k valE.dflt)).s))]) (by kernel_rfl) rfl (by kernel_rfl) (q_val (q_loadAgg_e (i := k) (E := valE) rfl (by kernel_rfl) (by kernel_rfl) (((Gl (l.getD i actE.dflt) (getD_mem (d := actE.dflt) (show i < l.length from (by omega))))).1.mono (((((l1.trans l5).trans l6).trans l11).trans l18).trans G18.imm)) (by omega)) (by kernel_rfl)) ?_
            refine WL.call (by kernel_rfl) rfl (by kernel_rfl) (by kernel_rfl) (right_spec (v := (((((l.getD i actE.dflt)).vals).getD k valE.dflt))) G18 ((Gl _ (getD_mem (show i < l.length by omega))).2.1 _ (getD_mem (d := valE.dflt) (by omega))).2.2) (Ret.elim ?_)
            rintro w21 h21 _ l21 G21 ⟨bs21, rfl, hb21⟩
            refine WL.q (.bool (!bs21)) (by kernel_rfl) rfl (by kernel_rfl) (by kernel_rfl) ?_
            refine WL.nil ?_
            refine EX.then_code ?_
            refine CW.cond (!bs21) (by kernel_rfl) (by kernel_rfl) (fun c22 => ?_) (fun c22 => ?_)
            ·
              skip
              have d23 := not_true c22
              refine CW.seq ?_
              refine CW.region ?_
              refine WL.q (.bool true) (by kernel_rfl) rfl (by kernel_rfl) (by kernel_rfl) ?_
              refine WL.nil ?_
              refine EX.then_code ?_
              refine CW.ret ?_
              refine EX.ret_block ?_
              refine EX.ret_then ?_
              refine EX.ret_then ?_
              refine EX.ret_block ?_
              refine EX.ret_then ?_
              refine EX.ret_block ?_
              refine EX.ret_then ?_
              refine EX.ret_then ?_
              refine EX.ret_block ?_
              refine EX.ret_then ?_
              refine EX.ret1 (v := (.bool true)) rfl (by kernel_rfl) ?_
              exact Ret.mk (((((l1.trans l5).trans l6).trans l11).trans l18).trans l21) (G21.drop (Ly.le (Ly.memA h6 p (fs.map dat) nx) o_mem6)) rfl
            ·
              skip
              have d25 := not_false c22
              refine CW.skip ?_
              refine EX.in_block ?_
              refine EX.then_code ?_
              refine CW.region ?_
              refine WL.q (.int .i64 (k : Int)) (by kernel_rfl) rfl (by kernel_rfl) (by kernel_rfl) ?_
              refine WL.q (.int .i64 ((k + 1 : Nat) : Int)) (by kernel_rfl) rfl (by kernel_rfl) (q_int (x := IntKind.i64.wrap ((k : Int) + 1)) (by kernel_rfl) (wrap_to (by omega) (by omega) (by omega))) ?_
              refine WL.q (.int .i64 ((k + 1 : Nat) : Int)) (by kernel_rfl) rfl (by kernel_rfl) (by kernel_rfl) ?_
              refine WL.nil ?_
              exact EX.then_loop (k + 1) ⟨(by kernel_rfl), (by kernel_rfl), (by kernel_rfl), (by kernel_rfl), (by kernel_rfl), (by kernel_rfl), (lk_int (x := ((k + 1 : Nat) : Int)) (by kernel_rfl) (by first | omega | (dsimp only; omega) | rfl | (dsimp only; rfl))), trivial⟩ ⟨h21, (l18.trans l21), G21, (by first | omega | assumption | (dsimp only [List.length_nil, List.length_append, List.length_cons]; omega)), (fun j hj => by rcases Nat.lt_or_ge j k with q | q; (exact hr j q); (obtain rfl : j = k := by omega); exact hb21 ((not_false c22)))⟩ (by first | omega | (dsimp only; omega))
          ·
            skip
            have d27 := of_decide_eq_false c19
            refine CW.exit ?_
            refine EX.exit_then ?_
            refine EX.exit_then ?_
            refine EX.exit_here ?_
            refine EX.then_code ?_
            refine CW.seq ?_
            refine CW.region ?_
            refine WL.q (.int .i64 (-1)) (by kernel_rfl) rfl (by kernel_rfl) (by kernel_rfl) ?_
            refine WL.nil ?_
            refine EX.then_code ?_
            refine CW.seq ?_
            refine CW.seq ?_
            refine CW.region ?_
            refine WL.q (.int .i64 0) (by kernel_rfl) rfl (by kernel_rfl) (by kernel_rfl) ?_
            refine WL.nil ?_
            refine EX.then_code ?_
            refine CW.block ?_
            have hok : FactOk (l.getD i actE.dflt).t (l.getD i actE.dflt).vals := ⟨by omega, by omega, fun v hv => by obtain ⟨j, hj, rfl⟩ := List.getElem_of_mem hv; have q1 := (Gl _ (getD_mem (d := actE.dflt) (show i < l.length by omega))).2.1 _ hv; have q2 := hr j (by omega); rw [getD_at hj] at q2; exact ⟨q1.1, q1.2.1, Nat.le_trans q2 (by decide)⟩⟩
            refine CW.loop (β := Nat) (fun x_ => [(0, (.slice a l.length c)), (3, (.pointer (some ⟨p, 0, none⟩))), (4, (.slice ao fs.length co)), (5, (.int .i64 nx)), (6, (.int .i64 (i : Int))), (7, (.pointer (some ⟨b9, 0, none⟩))), (9, (.int .i64 (atK fs (qF (l.getD i actE.dflt).op (l.getD i actE.dflt).id (l.getD i actE.dflt).t (l.getD i actE.dflt).vals) x_))), (10, (.int .i64 (x_ : Int)))]) (fun x_ w_ => ∃ h_, (PH.le h18 h_) ∧ (Wld K w_ h_ M0_6) ∧ (x_ ≤ fs.length)) (fun x_ => fs.length - x_) 0 ⟨(by kernel_rfl), (by kernel_rfl), (by kernel_rfl), (by kernel_rfl), (by kernel_rfl), (by kernel_rfl), (lk_int (x := (-1)) (by kernel_rfl) (by first | omega | (dsimp only; omega) | rfl | (dsimp only; rfl))), (lk_int (x := 0) (by kernel_rfl) (by first | omega | (dsimp only; omega) | rfl | (dsimp only; rfl))), trivial⟩ ⟨h18, (PH.le_refl _), G18, (Nat.zero_le _)⟩ ?_
            rintro k w28 ⟨h28, l28, G28, hk2⟩
            try dsimp only at *
            refine CW.seq ?_
            refine CW.seq ?_
            refine CW.region ?_
            refine WL.q (.int .i64 (k : Int)) (by kernel_rfl) rfl (by kernel_rfl) (by kernel_rfl) ?_
            refine WL.q (.slice ao fs.length co) (by kernel_rfl) rfl (by kernel_rfl) (by kernel_rfl) ?_
            refine WL.q (.int .i64 (fs.length : Int)) (by kernel_rfl) rfl (by kernel_rfl) (by kernel_rfl) ?_
            refine WL.q (.bool (decide ((k : Int) < (fs.length : Int)))) (by kernel_rfl) rfl (by kernel_rfl) (by kernel_rfl) ?_
            refine WL.nil ?_
            refine EX.then_code ?_
            refine CW.cond (decide ((k : Int) < (fs.length : Int))) (by kernel_rfl) (by kernel_rfl) (fun c29 => ?_) (fun c29 => ?_)
            ·
              skip
              have d30 := of_decide_eq_true c29
              refine CW.skip ?_
              refine EX.then_code ?_
              refine CW.seq ?_
              refine CW.block ?_
              refine CW.seq ?_
              refine CW.draw (by kernel_rfl) [(1, fun w_ => PH.all w_ b9 = some (.cells #[(.int .i64 (((l.getD i actE.dflt)).op)), (.int .i64 (((l.getD i actE.dflt)).id)), (.string (((l.getD i actE.dflt)).t)), (.slice (((l.getD i actE.dflt)).a) (((l.getD i actE.dflt)).vals.length) (((l.getD i actE.dflt)).c))] 50 (0, 0))), (8, fun w_ => RS (PH.all w_) factE ao fs), (10, fun w_ => PH.all w_ b9 = some (.cells #[(.int .i64 (((l.getD i actE.dflt)).op)), (.int .i64 (((l.getD i actE.dflt)).id)), (.string (((l.getD i actE.dflt)).t)), (.slice (((l.getD i actE.dflt)).a) (((l.getD i actE.dflt)).vals.length) (((l.getD i actE.dflt)).c))] 50 (0, 0))), (18, fun w_ => RS (PH.all w_) factE ao fs), (20, fun w_ => PH.all w_ b9 = some (.cells #[(.int .i64 (((l.getD i actE.dflt)).op)), (.int .i64 (((l.getD i actE.dflt)).id)), (.string (((l.getD i actE.dflt)).t)), (.slice (((l.getD i actE.dflt)).a) (((l.getD i actE.dflt)).vals.length) (((l.getD i actE.dflt)).c))] 50 (0, 0))), (25, fun w_ => PH.all w_ b9 = some (.cells #[(.int .i64 (((l.getD i actE.dflt)).op)), (.int .i64 (((l.getD i actE.dflt)).id)), (.string (((l.getD i actE.dflt)).t)), (.slice (((l.getD i actE.dflt)).a) (((l.getD i actE.dflt)).vals.length) (((l.getD i actE.dflt)).c))] 50 (0, 0))), (32, fun w_ => RS (PH.all w_) factE ao fs), (34, fun w_ => PH.all w_ b9 = some (.cells #[(.int .i64 (((l.getD i actE.dflt)).op)), (.int .i64 (((l.getD i actE.dflt)).id)), (.string (((l.getD i actE.dflt)).t)), (.slice (((l.getD i actE.dflt)).a) (((l.getD i actE.dflt)).vals.length) (((l.getD i actE.dflt)).c))] 50 (0, 0)))] ?_
              refine DW.take (T := fun _ => True) 0 (.pointer (some ⟨b9, 0, none⟩)) rfl (by kernel_rfl) rfl (by kernel_rfl) (.inl fun _ => trivial) (by kernel_rfl) (Deaf.thens (Deaf.block (Deaf.thens (Deaf.thens (Deaf.block (Deaf.thens (Deaf.block (Deaf.thens (Deaf.thens (Deaf.block (Deaf.thens (Deaf.body RetM.not_panicked)))))))))))) (fun w_ _ => (by kernel_rfl)) trivial ?_
              refine DW.take (T := fun w_ => PH.all w_ b9 = some (.cells #[(.int .i64 (((l.getD i actE.dflt)).op)), (.int .i64 (((l.getD i actE.dflt)).id)), (.string (((l.getD i actE.dflt)).t)), (.slice (((l.getD i actE.dflt)).a) (((l.getD i actE.dflt)).vals.length) (((l.getD i actE.dflt)).c))] 50 (0, 0))) 1 (.int .i64 (((l.getD i actE.dflt)).op)) rfl (by kernel_rfl) rfl (by kernel_rfl) (.inr (by first | exact .head _ | exact .tail _ (.head _) | exact .tail _ (.tail _ (.head _)) | exact .tail _ (.tail _ (.tail _ (.head _))) | simp)) (by kernel_rfl) (Deaf.thens (Deaf.block (Deaf.thens (Deaf.thens (Deaf.block (Deaf.thens (Deaf.block (Deaf.thens (Deaf.thens (Deaf.block (Deaf.thens (Deaf.body RetM.not_panicked)))))))))))) (fun w_ T_ => (q_load (off := 0) rfl (by kernel_rfl) (by kernel_rfl) T_ (by kernel_rfl))) ((G28.drew).imm _ _ ((l18.trans l28) _ _ hb11)) ?_
              refine DW.take (T := fun _ => True) 2 (.bool ((((l.getD i actE.dflt)).op : Int) == 1)) rfl (by kernel_rfl) rfl (by kernel_rfl) (.inl fun _ => trivial) (by kernel_rfl) (Deaf.thens (Deaf.block (Deaf.thens (Deaf.thens (Deaf.block (Deaf.thens (Deaf.block (Deaf.thens (Deaf.thens (Deaf.block (Deaf.thens (Deaf.body RetM.not_panicked)))))))))))) (fun w_ _ => (by kernel_rfl)) trivial ?_
              refine DW.take (T := fun _ => True) 3 (.bool ((((l.getD i actE.dflt)).op : Int) == 1)) rfl (by kernel_rfl) rfl (by kernel_rfl) (.inl fun _ => trivial) (by kernel_rfl) (Deaf.thens (Deaf.block (Deaf.thens (Deaf.thens (Deaf.block (Deaf.thens (Deaf.block (Deaf.thens (Deaf.thens (Deaf.block (Deaf.thens (Deaf.body RetM.not_panicked)))))))))))) (fun w_ _ => (by kernel_rfl)) trivial ?_
              rcases bool_cases ((((l.getD i actE.dflt)).op : Int) == 1) with c31 | c31
              ·
                skip
                have d32 := eq_of_beq c31
                refine DW.know 75 (.bool true) (x := .bool ((((l.getD i actE.dflt)).op : Int) == 1)) (by kernel_rfl) (congrArg Value.bool c31) ?_
                refine DW.take (T := fun _ => True) 4 (.slice ao fs.length co) rfl (by kernel_rfl) rfl (by kernel_rfl) (.inl fun _ => trivial) (by kernel_rfl) (Deaf.thens (Deaf.block (Deaf.thens (Deaf.thens (Deaf.block (Deaf.thens (Deaf.block (Deaf.thens (Deaf.thens (Deaf.block (Deaf.thens (Deaf.body RetM.not_panicked)))))))))))) (fun w_ _ => (by kernel_rfl)) trivial ?_
                refine DW.take (T := fun _ => True) 5 (.int .i64 (k : Int)) rfl (by kernel_rfl) rfl (by kernel_rfl) (.inl fun _ => trivial) (by kernel_rfl) (Deaf.thens (Deaf.block (Deaf.thens (Deaf.thens (Deaf.block (Deaf.thens (Deaf.block (Deaf.thens (Deaf.thens (Deaf.block (Deaf.thens (Deaf.body RetM.not_panicked)))))))))))) (fun w_ _ => (by kernel_rfl)) trivial ?_
                refine DW.take (T := fun _ => True) 6 (eptr ao (k * factE.sz)) rfl (by kernel_rfl) rfl (by kernel_rfl) (.inl fun _ => trivial) (by kernel_rfl) (Deaf.thens (Deaf.block (Deaf.thens (Deaf.thens (Deaf.block (Deaf.thens (Deaf.block (Deaf.thens (Deaf.thens (Deaf.block (Deaf.thens (Deaf.body RetM.not_panicked)))))))))))) (fun w_ _ => (q_indexAddr (i := k) (E := factE) (xs := fs) (e := 43) (c := co) (k := .i64) (m := fs.length) rfl rfl (by kernel_rfl) (by kernel_rfl) (by kernel_rfl) (f_row6.mono (((l11.trans l18).trans l28).trans (G28.drew).imm)) (by omega))) trivial ?_
                refine DW.take (T := fun _ => True) 7 (eptr ao (k * factE.sz + 1)) rfl (by kernel_rfl) rfl (by kernel_rfl) (.inl fun _ => trivial) (by kernel_rfl) (Deaf.thens (Deaf.block (Deaf.thens (Deaf.thens (Deaf.block (Deaf.thens (Deaf.block (Deaf.thens (Deaf.thens (Deaf.block (Deaf.thens (Deaf.body RetM.not_panicked)))))))))))) (fun w_ _ => (q_fieldAddr_e (i := k) (k := k * factE.sz) (off := 1) rfl (by kernel_rfl) (by kernel_rfl) (f_row6.mono (((l11.trans l18).trans l28).trans (G28.drew).imm)) (by omega))) trivial ?_
                refine DW.take (T := fun w_ => RS (PH.all w_) factE ao fs) 8 (.string (((fs.getD k factE.dflt)).t)) rfl (by kernel_rfl) rfl (by kernel_rfl) (.inr (by first | exact .head _ | exact .tail _ (.head _) | exact .tail _ (.tail _ (.head _)) | exact .tail _ (.tail _ (.tail _ (.head _))) | simp)) (by kernel_rfl) (Deaf.thens (Deaf.block (Deaf.thens (Deaf.thens (Deaf.block (Deaf.thens (Deaf.block (Deaf.thens (Deaf.thens (Deaf.block (Deaf.thens (Deaf.body RetM.not_panicked)))))))))))) (fun w_ T_ => (q_load_e (i := k) (k := 1) (E := factE) rfl (by kernel_rfl) (by kernel_rfl) T_ (by omega) (by decide) (by kernel_rfl))) (f_row6.mono (((l11.trans l18).trans l28).trans (G28.drew).imm)) ?_
                refine DW.take (T := fun _ => True) 9 (.pointer (some ⟨b9, 2, none⟩)) rfl (by kernel_rfl) rfl (by kernel_rfl) (.inl fun _ => trivial) (by kernel_rfl) (Deaf.thens (Deaf.block (Deaf.thens (Deaf.thens (Deaf.block (Deaf.thens (Deaf.block (Deaf.thens (Deaf.thens (Deaf.block (Deaf.thens (Deaf.body RetM.not_panicked)))))))))))) (fun w_ _ => (by kernel_rfl)) trivial ?_
                refine DW.take (T := fun w_ => PH.all w_ b9 = some (.cells #[(.int .i64 (((l.getD i actE.dflt)).op)), (.int .i64 (((l.getD i actE.dflt)).id)), (.string (((l.getD i actE.dflt)).t)), (.slice (((l.getD i actE.dflt)).a) (((l.getD i actE.dflt)).vals.length) (((l.getD i actE.dflt)).c))] 50 (0, 0))) 10 (.string (((l.getD i actE.dflt)).t)) rfl (by kernel_rfl) rfl (by kernel_rfl) (.inr (by first | exact .head _ | exact .tail _ (.head _) | exact .tail _ (.tail _ (.head _)) | exact .tail _ (.tail _ (.tail _ (.head _))) | simp)) (by kernel_rfl) (Deaf.thens (Deaf.block (Deaf.thens (Deaf.thens (Deaf.block (Deaf.thens (Deaf.block (Deaf.thens (Deaf.thens (Deaf.block (Deaf.thens (Deaf.body RetM.not_panicked)))))))))))) (fun w_ T_ => (q_load (off := 2) rfl (by kernel_rfl) (by kernel_rfl) T_ (by kernel_rfl))) ((G28.drew).imm _ _ ((l18.trans l28) _ _ hb11)) ?_
                refine DW.take (T := fun _ => True) 11 (.bool (sameS (((fs.getD k factE.dflt)).t) (((l.getD i actE.dflt)).t))) rfl (by kernel_rfl) rfl (by kernel_rfl) (.inl fun _ => trivial) (by kernel_rfl) (Deaf.thens (Deaf.block (Deaf.thens (Deaf.thens (Deaf.block (Deaf.thens (Deaf.block (Deaf.thens (Deaf.thens (Deaf.block (Deaf.thens (Deaf.body RetM.not_panicked)))))))))))) (fun w_ _ => (by kernel_rfl)) trivial ?_
                refine DW.take (T := fun _ => True) 12 (.bool (sameS (((fs.getD k factE.dflt)).t) (((l.getD i actE.dflt)).t))) rfl (by kernel_rfl) rfl (by kernel_rfl) (.inl fun _ => trivial) (by kernel_rfl) (Deaf.thens (Deaf.block (Deaf.thens (Deaf.thens (Deaf.block (Deaf.thens (Deaf.block (Deaf.thens (Deaf.thens (Deaf.block (Deaf.thens (Deaf.body RetM.not_panicked)))))))))))) (fun w_ _ => (by kernel_rfl)) trivial ?_
                refine DW.take (T := fun _ => True) 13 (.bool (sameS (((fs.getD k factE.dflt)).t) (((l.getD i actE.dflt)).t))) rfl (by kernel_rfl) rfl (by kernel_rfl) (.inl fun _ => trivial) (by kernel_rfl) (Deaf.thens (Deaf.block (Deaf.thens (Deaf.thens (Deaf.block (Deaf.thens (Deaf.block (Deaf.thens (Deaf.thens (Deaf.block (Deaf.thens (Deaf.body RetM.not_panicked)))))))))))) (fun w_ _ => (by kernel_rfl)) trivial ?_
                rcases bool_cases (sameS (((fs.getD k factE.dflt)).t) (((l.getD i actE.dflt)).t)) with c33 | c33
                ·
                  skip
                  have d34 := sameS_iff.1 c33
                  refine DW.know 85 (.bool true) (x := .bool (sameS (((fs.getD k factE.dflt)).t) (((l.getD i actE.dflt)).t))) (by kernel_rfl) (congrArg Value.bool c33) ?_
                  refine DW.take (T := fun _ => True) 14 (.slice ao fs.length co) rfl (by kernel_rfl) rfl (by kernel_rfl) (.inl fun _ => trivial) (by kernel_rfl) (Deaf.thens (Deaf.block (Deaf.thens (Deaf.thens (Deaf.block (Deaf.thens (Deaf.block (Deaf.thens (Deaf.thens (Deaf.block (Deaf.thens (Deaf.body RetM.not_panicked)))))))))))) (fun w_ _ => (by kernel_rfl)) trivial ?_
                  refine DW.take (T := fun _ => True) 15 (.int .i64 (k : Int)) rfl (by kernel_rfl) rfl (by kernel_rfl) (.inl fun _ => trivial) (by kernel_rfl) (Deaf.thens (Deaf.block (Deaf.thens (Deaf.thens (Deaf.block (Deaf.thens (Deaf.block (Deaf.thens (Deaf.thens (Deaf.block (Deaf.thens (Deaf.body RetM.not_panicked)))))))))))) (fun w_ _ => (by kernel_rfl)) trivial ?_
                  refine DW.take (T := fun _ => True) 16 (eptr ao (k * factE.sz)) rfl (by kernel_rfl) rfl (by kernel_rfl) (.inl fun _ => trivial) (by kernel_rfl) (Deaf.thens (Deaf.block (Deaf.thens (Deaf.thens (Deaf.block (Deaf.thens (Deaf.block (Deaf.thens (Deaf.thens (Deaf.block (Deaf.thens (Deaf.body RetM.not_panicked)))))))))))) (fun w_ _ => (q_indexAddr (i := k) (E := factE) (xs := fs) (e := 43) (c := co) (k := .i64) (m := fs.length) rfl rfl (by kernel_rfl) (by kernel_rfl) (by kernel_rfl) (f_row6.mono (((l11.trans l18).trans l28).trans (G28.drew).imm)) (by omega))) trivial ?_
                  refine DW.take (T := fun _ => True) 17 (eptr ao (k * factE.sz + 2)) rfl (by kernel_rfl) rfl (by kernel_rfl) (.inl fun _ => trivial) (by kernel_rfl) (Deaf.thens (Deaf.block (Deaf.thens (Deaf.thens (Deaf.block (Deaf.thens (Deaf.block (Deaf.thens (Deaf.thens (Deaf.block (Deaf.thens (Deaf.body RetM.not_panicked)))))))))))) (fun w_ _ => (q_fieldAddr_e (i := k) (k := k * factE.sz) (off := 2) rfl (by kernel_rfl) (by kernel_rfl) (f_row6.mono (((l11.trans l18).trans l28).trans (G28.drew).imm)) (by omega))) trivial ?_
                  refine DW.take (T := fun w_ => RS (PH.all w_) factE ao fs) 18 (.slice (((fs.getD k factE.dflt)).a) (((fs.getD k factE.dflt)).vals.length) (((fs.getD k factE.dflt)).c)) rfl (by kernel_rfl) rfl (by kernel_rfl) (.inr (by first | exact .head _ | exact .tail _ (.head _) | exact .tail _ (.tail _ (.head _)) | exact .tail _ (.tail _ (.tail _ (.head _))) | simp)) (by kernel_rfl) (Deaf.thens (Deaf.block (Deaf.thens (Deaf.thens (Deaf.block (Deaf.thens (Deaf.block (Deaf.thens (Deaf.thens (Deaf.block (Deaf.thens (Deaf.body RetM.not_panicked)))))))))))) (fun w_ T_ => (q_load_e (i := k) (k := 2) (E := factE) rfl (by kernel_rfl) (by kernel_rfl) T_ (by omega) (by decide) (by kernel_rfl))) (f_row6.mono (((l11.trans l18).trans l28).trans (G28.drew).imm)) ?_
                  refine DW.take (T := fun _ => True) 19 (.pointer (some ⟨b9, 3, none⟩)) rfl (by kernel_rfl) rfl (by kernel_rfl) (.inl fun _ => trivial) (by kernel_rfl) (Deaf.thens (Deaf.block (Deaf.thens (Deaf.thens (Deaf.block (Deaf.thens (Deaf.block (Deaf.thens (Deaf.thens (Deaf.block (Deaf.thens (Deaf.body RetM.not_panicked)))))))))))) (fun w_ _ => (by kernel_rfl)) trivial ?_
                  refine DW.take (T := fun w_ => PH.all w_ b9 = some (.cells #[(.int .i64 (((l.getD i actE.dflt)).op)), (.int .i64 (((l.getD i actE.dflt)).id)), (.string (((l.getD i actE.dflt)).t)), (.slice (((l.getD i actE.dflt)).a) (((l.getD i actE.dflt)).vals.length) (((l.getD i actE.dflt)).c))] 50 (0, 0))) 20 (.slice (((l.getD i actE.dflt)).a) (((l.getD i actE.dflt)).vals.length) (((l.getD i actE.dflt)).c)) rfl (by kernel_rfl) rfl (by kernel_rfl) (.inr (by first | exact .head _ | exact .tail _ (.head _) | exact .tail _ (.tail _ (.head _)) | exact .tail _ (.tail _ (.tail _ (.head _))) | simp)) (by kernel_rfl) (Deaf.thens (Deaf.block (Deaf.thens (Deaf.thens (Deaf.block (Deaf.thens (Deaf.block (Deaf.thens (Deaf.thens (Deaf.block (Deaf.thens (Deaf.body RetM.not_panicked)))))))))))) (fun w_ T_ => (q_load (off := 3) rfl (by kernel_rfl) (by kernel_rfl) T_ (by kernel_rfl))) ((G28.drew).imm _ _ ((l18.trans l28) _ _ hb11)) ?_
                  refine DW.only 21 (by kernel_rfl) ?_
                  refine DOp.call rfl (by kernel_rfl) rfl (by kernel_rfl) (by kernel_rfl) (rowsV_spec (xs := (((fs.getD k factE.dflt)).vals)) (ys := (((l.getD i actE.dflt)).vals)) (cx := (((fs.getD k factE.dflt)).c)) (cy := (((l.getD i actE.dflt)).c)) (G28.drew) ((fg_row6 (fs.getD k factE.dflt) (getD_mem (d := factE.dflt) (show k < fs.length from (by omega)))).mono ((l11.trans l18).trans l28)) (((Gl (l.getD i actE.dflt) (getD_mem (d := actE.dflt) (show i < l.length from (by omega))))).1.mono (((((l1.trans l5).trans l6).trans l11).trans l18).trans l28)) (Nat.le_trans (o_mem6.ok.ok _ (List.mem_map.2 ⟨_, getD_mem (show k < fs.length by omega), rfl⟩)).2.1 (by decide))) (Ret.elimD (fun w35 h35 l35 G35 => ⟨.inr (fun _ => (G35.imm _ _ (((l18.trans l28).trans l35) _ _ hb11))), .inr (fun _ => (f_row6.mono ((((l11.trans l18).trans l28).trans l35).trans G35.imm))), .inr (fun _ => (G35.imm _ _ (((l18.trans l28).trans l35) _ _ hb11))), .inl (by kernel_rfl), .inl (by kernel_rfl), .inr (fun _ => (G35.imm _ _ (((l18.trans l28).trans l35) _ _ hb11))), .inr (fun _ => (f_row6.mono ((((l11.trans l18).trans l28).trans l35).trans G35.imm))), .inr (fun _ => (G35.imm _ _ (((l18.trans l28).trans l35) _ _ hb11))), trivial⟩) ?_)
                  rintro w35 h35 _ l35 G35 rfl
                  refine DW.take (T := fun _ => True) 22 (.bool (rowsV (((fs.getD k factE.dflt)).vals) (((l.getD i actE.dflt)).vals))) rfl (by kernel_rfl) rfl (by kernel_rfl) (.inl fun _ => trivial) (by kernel_rfl) (Deaf.thens (Deaf.block (Deaf.thens (Deaf.thens (Deaf.block (Deaf.thens (Deaf.block (Deaf.thens (Deaf.thens (Deaf.block (Deaf.thens (Deaf.body RetM.not_panicked)))))))))))) (fun w_ _ => (by kernel_rfl)) trivial ?_
                  refine DW.take (T := fun _ => True) 23 (.bool (rowsV (((fs.getD k factE.dflt)).vals) (((l.getD i actE.dflt)).vals))) rfl (by kernel_rfl) rfl (by kernel_rfl) (.inl fun _ => trivial) (by kernel_rfl) (Deaf.thens (Deaf.block (Deaf.thens (Deaf.thens (Deaf.block (Deaf.thens (Deaf.block (Deaf.thens (Deaf.thens (Deaf.block (Deaf.thens (Deaf.body RetM.not_panicked)))))))))))) (fun w_ _ => (by kernel_rfl)) trivial ?_
                  rcases bool_cases (rowsV (((fs.getD k factE.dflt)).vals) (((l.getD i actE.dflt)).vals)) with c36 | c36
                  ·
                    skip
                    refine DW.know 95 (.bool true) (x := .bool (rowsV (((fs.getD k factE.dflt)).vals) (((l.getD i actE.dflt)).vals))) (by kernel_rfl) (congrArg Value.bool c36) ?_
                    refine DW.skip 24 rfl (by kernel_rfl) rfl (by kernel_rfl) (by kernel_rfl) (Deaf.thens (Deaf.block (Deaf.thens (Deaf.thens (Deaf.block (Deaf.thens (Deaf.block (Deaf.thens (Deaf.thens (Deaf.block (Deaf.thens (Deaf.body RetM.not_panicked)))))))))))) ?_
                    refine DW.skip 25 rfl (by kernel_rfl) rfl (by kernel_rfl) (by kernel_rfl) (Deaf.thens (Deaf.block (Deaf.thens (Deaf.thens (Deaf.block (Deaf.thens (Deaf.block (Deaf.thens (Deaf.thens (Deaf.block (Deaf.thens (Deaf.body RetM.not_panicked)))))))))))) ?_
                    refine DW.skip 26 rfl (by kernel_rfl) rfl (by kernel_rfl) (by kernel_rfl) (Deaf.thens (Deaf.block (Deaf.thens (Deaf.thens (Deaf.block (Deaf.thens (Deaf.block (Deaf.thens (Deaf.thens (Deaf.block (Deaf.thens (Deaf.body RetM.not_panicked)))))))))))) ?_
                    refine DW.skip 27 rfl (by kernel_rfl) rfl (by kernel_rfl) (by kernel_rfl) (Deaf.thens (Deaf.block (Deaf.thens (Deaf.thens (Deaf.block (Deaf.thens (Deaf.block (Deaf.thens (Deaf.thens (Deaf.block (Deaf.thens (Deaf.body RetM.not_panicked)))))))))))) ?_
                    refine DW.skip 28 rfl (by kernel_rfl) rfl (by kernel_rfl) (by kernel_rfl) (Deaf.thens (Deaf.block (Deaf.thens (Deaf.thens (Deaf.block (Deaf.thens (Deaf.block (Deaf.thens (Deaf.thens (Deaf.block (Deaf.thens (Deaf.body RetM.not_panicked)))))))))))) ?_
                    refine DW.skip 29 rfl (by kernel_rfl) rfl (by kernel_rfl) (by kernel_rfl) (Deaf.thens (Deaf.block (Deaf.thens (Deaf.thens (Deaf.block (Deaf.thens (Deaf.block (Deaf.thens (Deaf.thens (Deaf.block (Deaf.thens (Deaf.body RetM.not_panicked)))))))))))) ?_
                    refine DW.skip 30 rfl (by kernel_rfl) rfl (by kernel_rfl) (by kernel_rfl) (Deaf.thens (Deaf.block (Deaf.thens (Deaf.thens (Deaf.block (Deaf.thens (Deaf.block (Deaf.thens (Deaf.thens (Deaf.block (Deaf.thens (Deaf.body RetM.not_panicked)))))))))))) ?_
                    refine DW.skip 31 rfl (by kernel_rfl) rfl (by kernel_rfl) (by kernel_rfl) (Deaf.thens (Deaf.block (Deaf.thens (Deaf.thens (Deaf.block (Deaf.thens (Deaf.block (Deaf.thens (Deaf.thens (Deaf.block (Deaf.thens (Deaf.body RetM.not_panicked)))))))))))) ?_
                    refine DW.skip 32 rfl (by kernel_rfl) rfl (by kernel_rfl) (by kernel_rfl) (Deaf.thens (Deaf.block (Deaf.thens (Deaf.thens (Deaf.block (Deaf.thens (Deaf.block (Deaf.thens (Deaf.thens (Deaf.block (Deaf.thens (Deaf.body RetM.not_panicked)))))))))))) ?_
                    refine DW.skip 33 rfl (by kernel_rfl) rfl (by kernel_rfl) (by kernel_rfl) (Deaf.thens (Deaf.block (Deaf.thens (Deaf.thens (Deaf.block (Deaf.thens (Deaf.block (Deaf.thens (Deaf.thens (Deaf.block (Deaf.thens (Deaf.body RetM.not_panicked)))))))))))) ?_
                    refine DW.skip 34 rfl (by kernel_rfl) rfl (by kernel_rfl) (by kernel_rfl) (Deaf.thens (Deaf.block (Deaf.thens (Deaf.thens (Deaf.block (Deaf.thens (Deaf.block (Deaf.thens (Deaf.thens (Deaf.block (Deaf.thens (Deaf.body RetM.not_panicked)))))))))))) ?_
                    refine DW.skip 35 rfl (by kernel_rfl) rfl (by kernel_rfl) (by kernel_rfl) (Deaf.thens (Deaf.block (Deaf.thens (Deaf.thens (Deaf.block (Deaf.thens (Deaf.block (Deaf.thens (Deaf.thens (Deaf.block (Deaf.thens (Deaf.body RetM.not_panicked)))))))))))) ?_
                    refine DW.skip 36 rfl (by kernel_rfl) rfl (by kernel_rfl) (by kernel_rfl) (Deaf.thens (Deaf.block (Deaf.thens (Deaf.thens (Deaf.block (Deaf.thens (Deaf.block (Deaf.thens (Deaf.thens (Deaf.block (Deaf.thens (Deaf.body RetM.not_panicked)))))))))))) ?_
                    refine DW.take (T := fun _ => True) 37 (.bool true) rfl (by kernel_rfl) rfl (by kernel_rfl) (.inl fun _ => trivial) (by kernel_rfl) (Deaf.thens (Deaf.block (Deaf.thens (Deaf.thens (Deaf.block (Deaf.thens (Deaf.block (Deaf.thens (Deaf.thens (Deaf.block (Deaf.thens (Deaf.body RetM.not_panicked)))))))))))) (fun w_ _ => (by kernel_rfl)) trivial ?_
                    refine DW.done (by kernel_rfl) ?_
                    refine EX.then_code ?_
                    refine CW.cond_t (by kernel_rfl) (by kernel_rfl) ?_
                    refine CW.region ?_
                    refine WL.q (.int .i64 (k : Int)) (by kernel_rfl) rfl (by kernel_rfl) (by kernel_rfl) ?_
                    refine WL.q (.int .i64 (k : Int)) (by kernel_rfl) rfl (by kernel_rfl) (by kernel_rfl) ?_
                    refine WL.nil ?_
                    refine EX.in_block ?_
                    refine EX.then_code ?_
                    refine CW.region ?_
                    refine WL.q (.int .i64 (k : Int)) (by kernel_rfl) rfl (by kernel_rfl) (by kernel_rfl) ?_
                    refine WL.q (.int .i64 ((k + 1 : Nat) : Int)) (by kernel_rfl) rfl (by kernel_rfl) (q_int (x := IntKind.i64.wrap ((k : Int) + 1)) (by kernel_rfl) (wrap_to (by omega) (by omega) (by omega))) ?_
                    refine WL.q (.int .i64 ((k + 1 : Nat) : Int)) (by kernel_rfl) rfl (by kernel_rfl) (by kernel_rfl) ?_
                    refine WL.nil ?_
                    exact EX.then_loop (k + 1) ⟨(by kernel_rfl), (by kernel_rfl), (by kernel_rfl), (by kernel_rfl), (by kernel_rfl), (by kernel_rfl), (lk_val (x := (.int .i64 (k : Int))) (by kernel_rfl) (congrArg (Value.int .i64) (atK_yes (by simp only [qF, c31, c33, c36, Bool.true_and, Bool.and_true, Bool.false_and, Bool.and_false, Bool.or_true, Bool.true_or, Bool.or_false, Bool.false_or])))), (lk_int (x := ((k + 1 : Nat) : Int)) (by kernel_rfl) (by first | omega | (dsimp only; omega) | rfl | (dsimp only; rfl))), trivial⟩ ⟨h35, (l28.trans l35), G35, (by first | omega | assumption | (dsimp only [List.length_nil, List.length_append, List.length_cons]; omega))⟩ (by first | omega | (dsimp only; omega))
                  ·
                    skip
                    refine DW.know 95 (.bool false) (x := .bool (rowsV (((fs.getD k factE.dflt)).vals) (((l.getD i actE.dflt)).vals))) (by kernel_rfl) (congrArg Value.bool c36) ?_
                    refine DW.take (T := fun _ => True) 24 (.pointer (some ⟨b9, 0, none⟩)) rfl (by kernel_rfl) rfl (by kernel_rfl) (.inl fun _ => trivial) (by kernel_rfl) (Deaf.thens (Deaf.block (Deaf.thens (Deaf.thens (Deaf.block (Deaf.thens (Deaf.block (Deaf.thens (Deaf.thens (Deaf.block (Deaf.thens (Deaf.body RetM.not_panicked)))))))))))) (fun w_ _ => (by kernel_rfl)) trivial ?_
                    refine DW.take (T := fun w_ => PH.all w_ b9 = some (.cells #[(.int .i64 (((l.getD i actE.dflt)).op)), (.int .i64 (((l.getD i actE.dflt)).id)), (.string (((l.getD i actE.dflt)).t)), (.slice (((l.getD i actE.dflt)).a) (((l.getD i actE.dflt)).vals.length) (((l.getD i actE.dflt)).c))] 50 (0, 0))) 25 (.int .i64 (((l.getD i actE.dflt)).op)) rfl (by kernel_rfl) rfl (by kernel_rfl) (.inr (by first | exact .head _ | exact .tail _ (.head _) | exact .tail _ (.tail _ (.head _)) | exact .tail _ (.tail _ (.tail _ (.head _))) | simp)) (by kernel_rfl) (Deaf.thens (Deaf.block (Deaf.thens (Deaf.thens (Deaf.block (Deaf.thens (Deaf.block (Deaf.thens (Deaf.thens (Deaf.block (Deaf.thens (Deaf.body RetM.not_panicked)))))))))))) (fun w_ T_ => (q_load (off := 0) rfl (by kernel_rfl) (by kernel_rfl) T_ (by kernel_rfl))) (G35.imm _ _ (((l18.trans l28).trans l35) _ _ hb11)) ?_
                    refine DW.take (T := fun _ => True) 26 (.bool ((((l.getD i actE.dflt)).op : Int) == 2)) rfl (by kernel_rfl) rfl (by kernel_rfl) (.inl fun _ => trivial) (by kernel_rfl) (Deaf.thens (Deaf.block (Deaf.thens (Deaf.thens (Deaf.block (Deaf.thens (Deaf.block (Deaf.thens (Deaf.thens (Deaf.block (Deaf.thens (Deaf.body RetM.not_panicked)))))))))))) (fun w_ _ => (by kernel_rfl)) trivial ?_
                    refine DW.take (T := fun _ => True) 27 (.bool ((((l.getD i actE.dflt)).op : Int) == 2)) rfl (by kernel_rfl) rfl (by kernel_rfl) (.inl fun _ => trivial) (by kernel_rfl) (Deaf.thens (Deaf.block (Deaf.thens (Deaf.thens (Deaf.block (Deaf.thens (Deaf.block (Deaf.thens (Deaf.thens (Deaf.block (Deaf.thens (Deaf.body RetM.not_panicked)))))))))))) (fun w_ _ => (by kernel_rfl)) trivial ?_
                    rcases bool_cases ((((l.getD i actE.dflt)).op : Int) == 2) with c39 | c39
                    ·
                      skip
                      have d40 := eq_of_beq c39
                      exfalso; have q1_ := eq_of_beq c31; have q2_ := eq_of_beq c39; omega
                    ·
                      skip
                      have d41 := ne_of_beq_false c39
                      refine DW.know 99 (.bool false) (x := .bool ((((l.getD i actE.dflt)).op : Int) == 2)) (by kernel_rfl) (congrArg Value.bool c39) ?_
                      refine DW.skip 28 rfl (by kernel_rfl) rfl (by kernel_rfl) (by kernel_rfl) (Deaf.thens (Deaf.block (Deaf.thens (Deaf.thens (Deaf.block (Deaf.thens (Deaf.block (Deaf.thens (Deaf.thens (Deaf.block (Deaf.thens (Deaf.body RetM.not_panicked)))))))))))) ?_
                      refine DW.skip 29 rfl (by kernel_rfl) rfl (by kernel_rfl) (by kernel_rfl) (Deaf.thens (Deaf.block (Deaf.thens (Deaf.thens (Deaf.block (Deaf.thens (Deaf.block (Deaf.thens (Deaf.thens (Deaf.block (Deaf.thens (Deaf.body RetM.not_panicked)))))))))))) ?_
                      refine DW.skip 30 rfl (by kernel_rfl) rfl (by kernel_rfl) (by kernel_rfl) (Deaf.thens (Deaf.block (Deaf.thens (Deaf.thens (Deaf.block (Deaf.thens (Deaf.block (Deaf.thens (Deaf.thens (Deaf.block (Deaf.thens (Deaf.body RetM.not_panicked)))))))))))) ?_
                      refine DW.skip 31 rfl (by kernel_rfl) rfl (by kernel_rfl) (by kernel_rfl) (Deaf.thens (Deaf.block (Deaf.thens (Deaf.thens (Deaf.block (Deaf.thens (Deaf.block (Deaf.thens (Deaf.thens (Deaf.block (Deaf.thens (Deaf.body RetM.not_panicked)))))))))))) ?_
                      refine DW.skip 32 rfl (by kernel_rfl) rfl (by kernel_rfl) (by kernel_rfl) (Deaf.thens (Deaf.block (Deaf.thens (Deaf.thens (Deaf.block (Deaf.thens (Deaf.block (Deaf.thens (Deaf.thens (Deaf.block (Deaf.thens (Deaf.body RetM.not_panicked)))))))))))) ?_
                      refine DW.skip 33 rfl (by kernel_rfl) rfl (by kernel_rfl) (by kernel_rfl) (Deaf.thens (Deaf.block (Deaf.thens (Deaf.thens (Deaf.block (Deaf.thens (Deaf.block (Deaf.thens (Deaf.thens (Deaf.block (Deaf.thens (Deaf.body RetM.not_panicked)))))))))))) ?_
                      refine DW.skip 34 rfl (by kernel_rfl) rfl (by kernel_rfl) (by kernel_rfl) (Deaf.thens (Deaf.block (Deaf.thens (Deaf.thens (Deaf.block (Deaf.thens (Deaf.block (Deaf.thens (Deaf.thens (Deaf.block (Deaf.thens (Deaf.body RetM.not_panicked)))))))))))) ?_
                      refine DW.skip 35 rfl (by kernel_rfl) rfl (by kernel_rfl) (by kernel_rfl) (Deaf.thens (Deaf.block (Deaf.thens (Deaf.thens (Deaf.block (Deaf.thens (Deaf.block (Deaf.thens (Deaf.thens (Deaf.block (Deaf.thens (Deaf.body RetM.not_panicked)))))))))))) ?_
                      refine DW.take (T := fun _ => True) 36 (.bool false) rfl (by kernel_rfl) rfl (by kernel_rfl) (.inl fun _ => trivial) (by kernel_rfl) (Deaf.thens (Deaf.block (Deaf.thens (Deaf.thens (Deaf.block (Deaf.thens (Deaf.block (Deaf.thens (Deaf.thens (Deaf.block (Deaf.thens (Deaf.body RetM.not_panicked)))))))))))) (fun w_ _ => (by kernel_rfl)) trivial ?_
                      refine DW.take (T := fun _ => True) 37 (.bool false) rfl (by kernel_rfl) rfl (by kernel_rfl) (.inl fun _ => trivial) (by kernel_rfl) (Deaf.thens (Deaf.block (Deaf.thens (Deaf.thens (Deaf.block (Deaf.thens (Deaf.block (Deaf.thens (Deaf.thens (Deaf.block (Deaf.thens (Deaf.body RetM.not_panicked)))))))))))) (fun w_ _ => (by kernel_rfl)) trivial ?_
                      refine DW.done (by kernel_rfl) ?_
                      refine EX.then_code ?_
                      refine CW.cond_f (by kernel_rfl) (by kernel_rfl) ?_
                      refine CW.skip ?_
                      refine EX.in_block ?_
                      refine EX.then_code ?_
                      refine CW.region ?_
                      refine WL.q (.int .i64 (k : Int)) (by kernel_rfl) rfl (by kernel_rfl) (by kernel_rfl) ?_
                      refine WL.q (.int .i64 ((k + 1 : Nat) : Int)) (by kernel_rfl) rfl (by kernel_rfl) (q_int (x := IntKind.i64.wrap ((k : Int) + 1)) (by kernel_rfl) (wrap_to (by omega) (by omega) (by omega))) ?_
                      refine WL.q (.int .i64 ((k + 1 : Nat) : Int)) (by kernel_rfl) rfl (by kernel_rfl) (by kernel_rfl) ?_
                      refine WL.nil ?_
                      exact EX.then_loop (k + 1) ⟨(by kernel_rfl), (by kernel_rfl), (by kernel_rfl), (by kernel_rfl), (by kernel_rfl), (by kernel_rfl), (lk_val (x := (.int .i64 (atK fs (qF (l.getD i actE.dflt).op (l.getD i actE.dflt).id (l.getD i actE.dflt).t (l.getD i actE.dflt).vals) k))) (by kernel_rfl) (congrArg (Value.int .i64) (atK_no (by simp only [qF, c31, c33, c36, c39, Bool.true_and, Bool.and_true, Bool.false_and, Bool.and_false, Bool.or_true, Bool.true_or, Bool.or_false, Bool.false_or])))), (lk_int (x := ((k + 1 : Nat) : Int)) (by kernel_rfl) (by first | omega | (dsimp only; omega) | rfl | (dsimp only; rfl))), trivial⟩ ⟨h35, (l28.trans l35), G35, (by first | omega | assumption | (dsimp only [List.length_nil, List.length_append, List.length_cons]; omega))⟩ (by first | omega | (dsimp only; omega))
                ·
                  skip
                  have d42 := sameS_ne c33
                  refine DW.know 85 (.bool false) (x := .bool (sameS (((fs.getD k factE.dflt)).t) (((l.getD i actE.dflt)).t))) (by kernel_rfl) (congrArg Value.bool c33) ?_
                  refine DW.skip 14 rfl (by kernel_rfl) rfl (by kernel_rfl) (by kernel_rfl) (Deaf.thens (Deaf.block (Deaf.thens (Deaf.thens (Deaf.block (Deaf.thens (Deaf.block (Deaf.thens (Deaf.thens (Deaf.block (Deaf.thens (Deaf.body RetM.not_panicked)))))))))))) ?_
                  refine DW.skip 15 rfl (by kernel_rfl) rfl (by kernel_rfl) (by kernel_rfl) (Deaf.thens (Deaf.block (Deaf.thens (Deaf.thens (Deaf.block (Deaf.thens (Deaf.block (Deaf.thens (Deaf.thens (Deaf.block (Deaf.thens (Deaf.body RetM.not_panicked)))))))))))) ?_
                  refine DW.skip 16 rfl (by kernel_rfl) rfl (by kernel_rfl) (by kernel_rfl) (Deaf.thens (Deaf.block (Deaf.thens (Deaf.thens (Deaf.block (Deaf.thens (Deaf.block (Deaf.thens (Deaf.thens (Deaf.block (Deaf.thens (Deaf.body RetM.not_panicked)))))))))))) ?_
                  refine DW.skip 17 rfl (by kernel_rfl) rfl (by kernel_rfl) (by kernel_rfl) (Deaf.thens (Deaf.block (Deaf.thens (Deaf.thens (Deaf.block (Deaf.thens (Deaf.block (Deaf.thens (Deaf.thens (Deaf.block (Deaf.thens (Deaf.body RetM.not_panicked)))))))))))) ?_
                  refine DW.skip 18 rfl (by kernel_rfl) rfl (by kernel_rfl) (by kernel_rfl) (Deaf.thens (Deaf.block (Deaf.thens (Deaf.thens (Deaf.block (Deaf.thens (Deaf.block (Deaf.thens (Deaf.thens (Deaf.block (Deaf.thens (Deaf.body RetM.not_panicked)))))))))))) ?_
                  refine DW.skip 19 rfl (by kernel_rfl) rfl (by kernel_rfl) (by kernel_rfl) (Deaf.thens (Deaf.block (Deaf.thens (Deaf.thens (Deaf.block (Deaf.thens (Deaf.block (Deaf.thens (Deaf.thens (Deaf.block (Deaf.thens (Deaf.body RetM.not_panicked)))))))))))) ?_
                  refine DW.skip 20 rfl (by kernel_rfl) rfl (by kernel_rfl) (by kernel_rfl) (Deaf.thens (Deaf.block (Deaf.thens (Deaf.thens (Deaf.block (Deaf.thens (Deaf.block (Deaf.thens (Deaf.thens (Deaf.block (Deaf.thens (Deaf.body RetM.not_panicked)))))))))))) ?_
                  refine DW.skip 21 rfl (by kernel_rfl) rfl (by kernel_rfl) (by kernel_rfl) (Deaf.thens (Deaf.block (Deaf.thens (Deaf.thens (Deaf.block (Deaf.thens (Deaf.block (Deaf.thens (Deaf.thens (Deaf.block (Deaf.thens (Deaf.body RetM.not_panicked)))))))))))) ?_
                  refine DW.take (T := fun _ => True) 22 (.bool false) rfl (by kernel_rfl) rfl (by kernel_rfl) (.inl fun _ => trivial) (by kernel_rfl) (Deaf.thens (Deaf.block (Deaf.thens (Deaf.thens (Deaf.block (Deaf.thens (Deaf.block (Deaf.thens (Deaf.thens (Deaf.block (Deaf.thens (Deaf.body RetM.not_panicked)))))))))))) (fun w_ _ => (by kernel_rfl)) trivial ?_
                  refine DW.take (T := fun _ => True) 23 (.bool false) rfl (by kernel_rfl) rfl (by kernel_rfl) (.inl fun _ => trivial) (by kernel_rfl) (Deaf.thens (Deaf.block (Deaf.thens (Deaf.thens (Deaf.block (Deaf.thens (Deaf.block (Deaf.thens (Deaf.thens (Deaf.block (Deaf.thens (Deaf.body RetM.not_panicked)))))))))))) (fun w_ _ => (by kernel_rfl)) trivial ?_
                  refine DW.take (T := fun _ => True) 24 (.pointer (some ⟨b9, 0, none⟩)) rfl (by kernel_rfl) rfl (by kernel_rfl) (.inl fun _ => trivial) (by kernel_rfl) (Deaf.thens (Deaf.block (Deaf.thens (Deaf.thens (Deaf.block (Deaf.thens (Deaf.block (Deaf.thens (Deaf.thens (Deaf.block (Deaf.thens (Deaf.body RetM.not_panicked)))))))))))) (fun w_ _ => (by kernel_rfl)) trivial ?_
                  refine DW.take (T := fun w_ => PH.all w_ b9 = some (.cells #[(.int .i64 (((l.getD i actE.dflt)).op)), (.int .i64 (((l.getD i actE.dflt)).id)), (.string (((l.getD i actE.dflt)).t)), (.slice (((l.getD i actE.dflt)).a) (((l.getD i actE.dflt)).vals.length) (((l.getD i actE.dflt)).c))] 50 (0, 0))) 25 (.int .i64 (((l.getD i actE.dflt)).op)) rfl (by kernel_rfl) rfl (by kernel_rfl) (.inr (by first | exact .head _ | exact .tail _ (.head _) | exact .tail _ (.tail _ (.head _)) | exact .tail _ (.tail _ (.tail _ (.head _))) | simp)) (by kernel_rfl) (Deaf.thens (Deaf.block (Deaf.thens (Deaf.thens (Deaf.block (Deaf.thens (Deaf.block (Deaf.thens (Deaf.thens (Deaf.block (Deaf.thens (Deaf.body RetM.not_panicked)))))))))))) (fun w_ T_ => (q_load (off := 0) rfl (by kernel_rfl) (by kernel_rfl) T_ (by kernel_rfl))) ((G28.drew).imm _ _ ((l18.trans l28) _ _ hb11)) ?_
                  refine DW.take (T := fun _ => True) 26 (.bool ((((l.getD i actE.dflt)).op : Int) == 2)) rfl (by kernel_rfl) rfl (by kernel_rfl) (.inl fun _ => trivial) (by kernel_rfl) (Deaf.thens (Deaf.block (Deaf.thens (Deaf.thens (Deaf.block (Deaf.thens (Deaf.block (Deaf.thens (Deaf.thens (Deaf.block (Deaf.thens (Deaf.body RetM.not_panicked)))))))))))) (fun w_ _ => (by kernel_rfl)) trivial ?_
                  refine DW.take (T := fun _ => True) 27 (.bool ((((l.getD i actE.dflt)).op : Int) == 2)) rfl (by kernel_rfl) rfl (by kernel_rfl) (.inl fun _ => trivial) (by kernel_rfl) (Deaf.thens (Deaf.block (Deaf.thens (Deaf.thens (Deaf.block (Deaf.thens (Deaf.block (Deaf.thens (Deaf.thens (Deaf.block (Deaf.thens (Deaf.body RetM.not_panicked)))))))))))) (fun w_ _ => (by kernel_rfl)) trivial ?_
                  rcases bool_cases ((((l.getD i actE.dflt)).op : Int) == 2) with c43 | c43
                  ·
                    skip
                    have d44 := eq_of_beq c43
                    exfalso; have q1_ := eq_of_beq c31; have q2_ := eq_of_beq c43; omega
                  ·
                    skip
                    have d45 := ne_of_beq_false c43
                    refine DW.know 99 (.bool false) (x := .bool ((((l.getD i actE.dflt)).op : Int) == 2)) (by kernel_rfl) (congrArg Value.bool c43) ?_
                    refine DW.skip 28 rfl (by kernel_rfl) rfl (by kernel_rfl) (by kernel_rfl) (Deaf.thens (Deaf.block (Deaf.thens (Deaf.thens (Deaf.block (Deaf.thens (Deaf.block (Deaf.thens (Deaf.thens (Deaf.block (Deaf.thens (Deaf.body RetM.not_panicked)))))))))))) ?_
                    refine DW.skip 29 rfl (by kernel_rfl) rfl (by kernel_rfl) (by kernel_rfl) (Deaf.thens (Deaf.block (Deaf.thens (Deaf.thens (Deaf.block (Deaf.thens (Deaf.block (Deaf.thens (Deaf.thens (Deaf.block (Deaf.thens (Deaf.body RetM.not_panicked)))))))))))) ?_
                    refine DW.skip 30 rfl (by kernel_rfl) rfl (by kernel_rfl) (by kernel_rfl) (Deaf.thens (Deaf.block (Deaf.thens (Deaf.thens (Deaf.block (Deaf.thens (Deaf.block (Deaf.thens (Deaf.thens (Deaf.block (Deaf.thens (Deaf.body RetM.not_panicked)))))))))))) ?_
                    refine DW.skip 31 rfl (by kernel_rfl) rfl (by kernel_rfl) (by kernel_rfl) (Deaf.thens (Deaf.block (Deaf.thens (Deaf.thens (Deaf.block (Deaf.thens (Deaf.block (Deaf.thens (Deaf.thens (Deaf.block (Deaf.thens (Deaf.body RetM.not_panicked)))))))))))) ?_
                    refine DW.skip 32 rfl (by kernel_rfl) rfl (by kernel_rfl) (by kernel_rfl) (Deaf.thens (Deaf.block (Deaf.thens (Deaf.thens (Deaf.block (Deaf.thens (Deaf.block (Deaf.thens (Deaf.thens (Deaf.block (Deaf.thens (Deaf.body RetM.not_panicked)))))))))))) ?_
                    refine DW.skip 33 rfl (by kernel_rfl) rfl (by kernel_rfl) (by kernel_rfl) (Deaf.thens (Deaf.block (Deaf.thens (Deaf.thens (Deaf.block (Deaf.thens (Deaf.block (Deaf.thens (Deaf.thens (Deaf.block (Deaf.thens (Deaf.body RetM.not_panicked)))))))))))) ?_
                    refine DW.skip 34 rfl (by kernel_rfl) rfl (by kernel_rfl) (by kernel_rfl) (Deaf.thens (Deaf.block (Deaf.thens (Deaf.thens (Deaf.block (Deaf.thens (Deaf.block (Deaf.thens (Deaf.thens (Deaf.block (Deaf.thens (Deaf.body RetM.not_panicked)))))))))))) ?_
                    refine DW.skip 35 rfl (by kernel_rfl) rfl (by kernel_rfl) (by kernel_rfl) (Deaf.thens (Deaf.block (Deaf.thens (Deaf.thens (Deaf.block (Deaf.thens (Deaf.block (Deaf.thens (Deaf.thens (Deaf.block (Deaf.thens (Deaf.body RetM.not_panicked)))))))))))) ?_
                    refine DW.take (T := fun _ => True) 36 (.bool false) rfl (by kernel_rfl) rfl (by kernel_rfl) (.inl fun _ => trivial) (by kernel_rfl) (Deaf.thens (Deaf.block (Deaf.thens (Deaf.thens (Deaf.block (Deaf.thens (Deaf.block (Deaf.thens (Deaf.thens (Deaf.block (Deaf.thens (Deaf.body RetM.not_panicked)))))))))))) (fun w_ _ => (by kernel_rfl)) trivial ?_
                    refine DW.take (T := fun _ => True) 37 (.bool false) rfl (by kernel_rfl) rfl (by kernel_rfl) (.inl fun _ => trivial) (by kernel_rfl) (Deaf.thens (Deaf.block (Deaf.thens (Deaf.thens (Deaf.block (Deaf.thens (Deaf.block (Deaf.thens (Deaf.thens (Deaf.block (Deaf.thens (Deaf.body RetM.not_panicked)))))))))))) (fun w_ _ => (by kernel_rfl)) trivial ?_
                    refine DW.done (by kernel_rfl) ?_
                    refine EX.then_code ?_
                    refine CW.cond_f (by kernel_rfl) (by kernel_rfl) ?_
                    refine CW.skip ?_
                    refine EX.in_block ?_
                    refine EX.then_code ?_
                    refine CW.region ?_
                    refine WL.q (.int .i64 (k : Int)) (by kernel_rfl) rfl (by kernel_rfl) (by kernel_rfl) ?_
                    refine WL.q (.int .i64 ((k + 1 : Nat) : Int)) (by kernel_rfl) rfl (by kernel_rfl) (q_int (x := IntKind.i64.wrap ((k : Int) + 1)) (by kernel_rfl) (wrap_to (by omega) (by omega) (by omega))) ?_
                    refine WL.q (.int .i64 ((k + 1 : Nat) : Int)) (by kernel_rfl) rfl (by kernel_rfl) (by kernel_rfl) ?_
                    refine WL.nil ?_
                    exact EX.then_loop (k + 1) ⟨(by kernel_rfl), (by kernel_rfl), (by kernel_rfl), (by kernel_rfl), (by kernel_rfl), (by kernel_rfl), (lk_val (x := (.int .i64 (atK fs (qF (l.getD i actE.dflt).op (l.getD i actE.dflt).id (l.getD i actE.dflt).t (l.getD i actE.dflt).vals) k))) (by kernel_rfl) (congrArg (Value.int .i64) (atK_no (by simp only [qF, c31, c33, c43, Bool.true_and, Bool.and_true, Bool.false_and, Bool.and_false, Bool.or_true, Bool.true_or, Bool.or_false, Bool.false_or])))), (lk_int (x := ((k + 1 : Nat) : Int)) (by kernel_rfl) (by first | omega | (dsimp only; omega) | rfl | (dsimp only; rfl))), trivial⟩ ⟨h28, l28, (G28.drew), (by first | omega | assumption | (dsimp only [List.length_nil, List.length_append, List.length_cons]; omega))⟩ (by first | omega | (dsimp only; omega))
              ·
                skip
                have d46 := ne_of_beq_false c31
                refine DW.know 75 (.bool false) (x := .bool ((((l.getD i actE.dflt)).op : Int) == 1)) (by kernel_rfl) (congrArg Value.bool c31) ?_
                refine DW.skip 4 rfl (by kernel_rfl) rfl (by kernel_rfl) (by kernel_rfl) (Deaf.thens (Deaf.block (Deaf.thens (Deaf.thens (Deaf.block (Deaf.thens (Deaf.block (Deaf.thens (Deaf.thens (Deaf.block (Deaf.thens (Deaf.body RetM.not_panicked)))))))))))) ?_
                refine DW.skip 5 rfl (by kernel_rfl) rfl (by kernel_rfl) (by kernel_rfl) (Deaf.thens (Deaf.block (Deaf.thens (Deaf.thens (Deaf.block (Deaf.thens (Deaf.block (Deaf.thens (Deaf.thens (Deaf.block (Deaf.thens (Deaf.body RetM.not_panicked)))))))))))) ?_
                refine DW.skip 6 rfl (by kernel_rfl) rfl (by kernel_rfl) (by kernel_rfl) (Deaf.thens (Deaf.block (Deaf.thens (Deaf.thens (Deaf.block (Deaf.thens (Deaf.block (Deaf.thens (Deaf.thens (Deaf.block (Deaf.thens (Deaf.body RetM.not_panicked)))))))))))) ?_
                refine DW.skip 7 rfl (by kernel_rfl) rfl (by kernel_rfl) (by kernel_rfl) (Deaf.thens (Deaf.block (Deaf.thens (Deaf.thens (Deaf.block (Deaf.thens (Deaf.block (Deaf.thens (Deaf.thens (Deaf.block (Deaf.thens (Deaf.body RetM.not_panicked)))))))))))) ?_
                refine DW.skip 8 rfl (by kernel_rfl) rfl (by kernel_rfl) (by kernel_rfl) (Deaf.thens (Deaf.block (Deaf.thens (Deaf.thens (Deaf.block (Deaf.thens (Deaf.block (Deaf.thens (Deaf.thens (Deaf.block (Deaf.thens (Deaf.body RetM.not_panicked)))))))))))) ?_
                refine DW.skip 9 rfl (by kernel_rfl) rfl (by kernel_rfl) (by kernel_rfl) (Deaf.thens (Deaf.block (Deaf.thens (Deaf.thens (Deaf.block (Deaf.thens (Deaf.block (Deaf.thens (Deaf.thens (Deaf.block (Deaf.thens (Deaf.body RetM.not_panicked)))))))))))) ?_
                refine DW.skip 10 rfl (by kernel_rfl) rfl (by kernel_rfl) (by kernel_rfl) (Deaf.thens (Deaf.block (Deaf.thens (Deaf.thens (Deaf.block (Deaf.thens (Deaf.block (Deaf.thens (Deaf.thens (Deaf.block (Deaf.thens (Deaf.body RetM.not_panicked)))))))))))) ?_
                refine DW.skip 11 rfl (by kernel_rfl) rfl (by kernel_rfl) (by kernel_rfl) (Deaf.thens (Deaf.block (Deaf.thens (Deaf.thens (Deaf.block (Deaf.thens (Deaf.block (Deaf.thens (Deaf.thens (Deaf.block (Deaf.thens (Deaf.body RetM.not_panicked)))))))))))) ?_
                refine DW.take (T := fun _ => True) 12 (.bool false) rfl (by kernel_rfl) rfl (by kernel_rfl) (.inl fun _ => trivial) (by kernel_rfl) (Deaf.thens (Deaf.block (Deaf.thens (Deaf.thens (Deaf.block (Deaf.thens (Deaf.block (Deaf.thens (Deaf.thens (Deaf.block (Deaf.thens (Deaf.body RetM.not_panicked)))))))))))) (fun w_ _ => (by kernel_rfl)) trivial ?_
                refine DW.take (T := fun _ => True) 13 (.bool false) rfl (by kernel_rfl) rfl (by kernel_rfl) (.inl fun _ => trivial) (by kernel_rfl) (Deaf.thens (Deaf.block (Deaf.thens (Deaf.thens (Deaf.block (Deaf.thens (Deaf.block (Deaf.thens (Deaf.thens (Deaf.block (Deaf.thens (Deaf.body RetM.not_panicked)))))))))))) (fun w_ _ => (by kernel_rfl)) trivial ?_
                refine DW.skip 14 rfl (by kernel_rfl) rfl (by kernel_rfl) (by kernel_rfl) (Deaf.thens (Deaf.block (Deaf.thens (Deaf.thens (Deaf.block (Deaf.thens (Deaf.block (Deaf.thens (Deaf.thens (Deaf.block (Deaf.thens (Deaf.body RetM.not_panicked)))))))))))) ?_
                refine DW.skip 15 rfl (by kernel_rfl) rfl (by kernel_rfl) (by kernel_rfl) (Deaf.thens (Deaf.block (Deaf.thens (Deaf.thens (Deaf.block (Deaf.thens (Deaf.block (Deaf.thens (Deaf.thens (Deaf.block (Deaf.thens (Deaf.body RetM.not_panicked)))))))))))) ?_
                refine DW.skip 16 rfl (by kernel_rfl) rfl (by kernel_rfl) (by kernel_rfl) (Deaf.thens (Deaf.block (Deaf.thens (Deaf.thens (Deaf.block (Deaf.thens (Deaf.block (Deaf.thens (Deaf.thens (Deaf.block (Deaf.thens (Deaf.body RetM.not_panicked)))))))))))) ?_
                refine DW.skip 17 rfl (by kernel_rfl) rfl (by kernel_rfl) (by kernel_rfl) (Deaf.thens (Deaf.block (Deaf.thens (Deaf.thens (Deaf.block (Deaf.thens (Deaf.block (Deaf.thens (Deaf.thens (Deaf.block (Deaf.thens (Deaf.body RetM.not_panicked)))))))))))) ?_
                refine DW.skip 18 rfl (by kernel_rfl) rfl (by kernel_rfl) (by kernel_rfl) (Deaf.thens (Deaf.block (Deaf.thens (Deaf.thens (Deaf.block (Deaf.thens (Deaf.block (Deaf.thens (Deaf.thens (Deaf.block (Deaf.thens (Deaf.body RetM.not_panicked)))))))))))) ?_
                refine DW.skip 19 rfl (by kernel_rfl) rfl (by kernel_rfl) (by kernel_rfl) (Deaf.thens (Deaf.block (Deaf.thens (Deaf.thens (Deaf.block (Deaf.thens (Deaf.block (Deaf.thens (Deaf.thens (Deaf.block (Deaf.thens (Deaf.body RetM.not_panicked)))))))))))) ?_
                refine DW.skip 20 rfl (by kernel_rfl) rfl (by kernel_rfl) (by kernel_rfl) (Deaf.thens (Deaf.block (Deaf.thens (Deaf.thens (Deaf.block (Deaf.thens (Deaf.block (Deaf.thens (Deaf.thens (Deaf.block (Deaf.thens (Deaf.body RetM.not_panicked)))))))))))) ?_
                refine DW.skip 21 rfl (by kernel_rfl) rfl (by kernel_rfl) (by kernel_rfl) (Deaf.thens (Deaf.block (Deaf.thens (Deaf.thens (Deaf.block (Deaf.thens (Deaf.block (Deaf.thens (Deaf.thens (Deaf.block (Deaf.thens (Deaf.body RetM.not_panicked)))))))))))) ?_
                refine DW.take (T := fun _ => True) 22 (.bool false) rfl (by kernel_rfl) rfl (by kernel_rfl) (.inl fun _ => trivial) (by kernel_rfl) (Deaf.thens (Deaf.block (Deaf.thens (Deaf.thens (Deaf.block (Deaf.thens (Deaf.block (Deaf.thens (Deaf.thens (Deaf.block (Deaf.thens (Deaf.body RetM.not_panicked)))))))))))) (fun w_ _ => (by kernel_rfl)) trivial ?_
                refine DW.take (T := fun _ => True) 23 (.bool false) rfl (by kernel_rfl) rfl (by kernel_rfl) (.inl fun _ => trivial) (by kernel_rfl) (Deaf.thens (Deaf.block (Deaf.thens (Deaf.thens (Deaf.block (Deaf.thens (Deaf.block (Deaf.thens (Deaf.thens (Deaf.block (Deaf.thens (Deaf.body RetM.not_panicked)))))))))))) (fun w_ _ => (by kernel_rfl)) trivial ?_
                refine DW.take (T := fun _ => True) 24 (.pointer (some ⟨b9, 0, none⟩)) rfl (by kernel_rfl) rfl (by kernel_rfl) (.inl fun _ => trivial) (by kernel_rfl) (Deaf.thens (Deaf.block (Deaf.thens (Deaf.thens (Deaf.block (Deaf.thens (Deaf.block (Deaf.thens (Deaf.thens (Deaf.block (Deaf.thens (Deaf.body RetM.not_panicked)))))))))))) (fun w_ _ => (by kernel_rfl)) trivial ?_
                refine DW.take (T := fun w_ => PH.all w_ b9 = some (.cells #[(.int .i64 (((l.getD i actE.dflt)).op)), (.int .i64 (((l.getD i actE.dflt)).id)), (.string (((l.getD i actE.dflt)).t)), (.slice (((l.getD i actE.dflt)).a) (((l.getD i actE.dflt)).vals.length) (((l.getD i actE.dflt)).c))] 50 (0, 0))) 25 (.int .i64 (((l.getD i actE.dflt)).op)) rfl (by kernel_rfl) rfl (by kernel_rfl) (.inr (by first | exact .head _ | exact .tail _ (.head _) | exact .tail _ (.tail _ (.head _)) | exact .tail _ (.tail _ (.tail _ (.head _))) | simp)) (by kernel_rfl) (Deaf.thens (Deaf.block (Deaf.thens (Deaf.thens (Deaf.block (Deaf.thens (Deaf.block (Deaf.thens (Deaf.thens (Deaf.block (Deaf.thens (Deaf.body RetM.not_panicked)))))))))))) (fun w_ T_ => (q_load (off := 0) rfl (by kernel_rfl) (by kernel_rfl) T_ (by kernel_rfl))) ((G28.drew).imm _ _ ((l18.trans l28) _ _ hb11)) ?_
                refine DW.take (T := fun _ => True) 26 (.bool ((((l.getD i actE.dflt)).op : Int) == 2)) rfl (by kernel_rfl) rfl (by kernel_rfl) (.inl fun _ => trivial) (by kernel_rfl) (Deaf.thens (Deaf.block (Deaf.thens (Deaf.thens (Deaf.block (Deaf.thens (Deaf.block (Deaf.thens (Deaf.thens (Deaf.block (Deaf.thens (Deaf.body RetM.not_panicked)))))))))))) (fun w_ _ => (by kernel_rfl)) trivial ?_
                refine DW.take (T := fun _ => True) 27 (.bool ((((l.getD i actE.dflt)).op : Int) == 2)) rfl (by kernel_rfl) rfl (by kernel_rfl) (.inl fun _ => trivial) (by kernel_rfl) (Deaf.thens (Deaf.block (Deaf.thens (Deaf.thens (Deaf.block (Deaf.thens (Deaf.block (Deaf.thens (Deaf.thens (Deaf.block (Deaf.thens (Deaf.body RetM.not_panicked)))))))))))) (fun w_ _ => (by kernel_rfl)) trivial ?_
                rcases bool_cases ((((l.getD i actE.dflt)).op : Int) == 2) with c47 | c47
                ·
                  skip
                  have d48 := eq_of_beq c47
                  refine DW.know 99 (.bool true) (x := .bool ((((l.getD i actE.dflt)).op : Int) == 2)) (by kernel_rfl) (congrArg Value.bool c47) ?_
                  refine DW.take (T := fun _ => True) 28 (.slice ao fs.length co) rfl (by kernel_rfl) rfl (by kernel_rfl) (.inl fun _ => trivial) (by kernel_rfl) (Deaf.thens (Deaf.block (Deaf.thens (Deaf.thens (Deaf.block (Deaf.thens (Deaf.block (Deaf.thens (Deaf.thens (Deaf.block (Deaf.thens (Deaf.body RetM.not_panicked)))))))))))) (fun w_ _ => (by kernel_rfl)) trivial ?_
                  refine DW.take (T := fun _ => True) 29 (.int .i64 (k : Int)) rfl (by kernel_rfl) rfl (by kernel_rfl) (.inl fun _ => trivial) (by kernel_rfl) (Deaf.thens (Deaf.block (Deaf.thens (Deaf.thens (Deaf.block (Deaf.thens (Deaf.block (Deaf.thens (Deaf.thens (Deaf.block (Deaf.thens (Deaf.body RetM.not_panicked)))))))))))) (fun w_ _ => (by kernel_rfl)) trivial ?_
                  refine DW.take (T := fun _ => True) 30 (eptr ao (k * factE.sz)) rfl (by kernel_rfl) rfl (by kernel_rfl) (.inl fun _ => trivial) (by kernel_rfl) (Deaf.thens (Deaf.block (Deaf.thens (Deaf.thens (Deaf.block (Deaf.thens (Deaf.block (Deaf.thens (Deaf.thens (Deaf.block (Deaf.thens (Deaf.body RetM.not_panicked)))))))))))) (fun w_ _ => (q_indexAddr (i := k) (E := factE) (xs := fs) (e := 43) (c := co) (k := .i64) (m := fs.length) rfl rfl (by kernel_rfl) (by kernel_rfl) (by kernel_rfl) (f_row6.mono (((l11.trans l18).trans l28).trans (G28.drew).imm)) (by omega))) trivial ?_
                  refine DW.take (T := fun _ => True) 31 (eptr ao (k * factE.sz + 0)) rfl (by kernel_rfl) rfl (by kernel_rfl) (.inl fun _ => trivial) (by kernel_rfl) (Deaf.thens (Deaf.block (Deaf.thens (Deaf.thens (Deaf.block (Deaf.thens (Deaf.block (Deaf.thens (Deaf.thens (Deaf.block (Deaf.thens (Deaf.body RetM.not_panicked)))))))))))) (fun w_ _ => (q_fieldAddr_e (i := k) (k := k * factE.sz) (off := 0) rfl (by kernel_rfl) (by kernel_rfl) (f_row6.mono (((l11.trans l18).trans l28).trans (G28.drew).imm)) (by omega))) trivial ?_
                  refine DW.take (T := fun w_ => RS (PH.all w_) factE ao fs) 32 (.int .i64 (((fs.getD k factE.dflt)).id)) rfl (by kernel_rfl) rfl (by kernel_rfl) (.inr (by first | exact .head _ | exact .tail _ (.head _) | exact .tail _ (.tail _ (.head _)) | exact .tail _ (.tail _ (.tail _ (.head _))) | simp)) (by kernel_rfl) (Deaf.thens (Deaf.block (Deaf.thens (Deaf.thens (Deaf.block (Deaf.thens (Deaf.block (Deaf.thens (Deaf.thens (Deaf.block (Deaf.thens (Deaf.body RetM.not_panicked)))))))))))) (fun w_ T_ => (q_load_e (i := k) (k := 0) (E := factE) rfl (by kernel_rfl) (by kernel_rfl) T_ (by omega) (by decide) (by kernel_rfl))) (f_row6.mono (((l11.trans l18).trans l28).trans (G28.drew).imm)) ?_
                  refine DW.take (T := fun _ => True) 33 (.pointer (some ⟨b9, 1, none⟩)) rfl (by kernel_rfl) rfl (by kernel_rfl) (.inl fun _ => trivial) (by kernel_rfl) (Deaf.thens (Deaf.block (Deaf.thens (Deaf.thens (Deaf.block (Deaf.thens (Deaf.block (Deaf.thens (Deaf.thens (Deaf.block (Deaf.thens (Deaf.body RetM.not_panicked)))))))))))) (fun w_ _ => (by kernel_rfl)) trivial ?_
                  refine DW.take (T := fun w_ => PH.all w_ b9 = some (.cells #[(.int .i64 (((l.getD i actE.dflt)).op)), (.int .i64 (((l.getD i actE.dflt)).id)), (.string (((l.getD i actE.dflt)).t)), (.slice (((l.getD i actE.dflt)).a) (((l.getD i actE.dflt)).vals.length) (((l.getD i actE.dflt)).c))] 50 (0, 0))) 34 (.int .i64 (((l.getD i actE.dflt)).id)) rfl (by kernel_rfl) rfl (by kernel_rfl) (.inr (by first | exact .head _ | exact .tail _ (.head _) | exact .tail _ (.tail _ (.head _)) | exact .tail _ (.tail _ (.tail _ (.head _))) | simp)) (by kernel_rfl) (Deaf.thens (Deaf.block (Deaf.thens (Deaf.thens (Deaf.block (Deaf.thens (Deaf.block (Deaf.thens (Deaf.thens (Deaf.block (Deaf.thens (Deaf.body RetM.not_panicked)))))))))))) (fun w_ T_ => (q_load (off := 1) rfl (by kernel_rfl) (by kernel_rfl) T_ (by kernel_rfl))) ((G28.drew).imm _ _ ((l18.trans l28) _ _ hb11)) ?_
                  refine DW.take (T := fun _ => True) 35 (.bool ((((fs.getD k factE.dflt)).id : Int) == ((l.getD i actE.dflt)).id)) rfl (by kernel_rfl) rfl (by kernel_rfl) (.inl fun _ => trivial) (by kernel_rfl) (Deaf.thens (Deaf.block (Deaf.thens (Deaf.thens (Deaf.block (Deaf.thens (Deaf.block (Deaf.thens (Deaf.thens (Deaf.block (Deaf.thens (Deaf.body RetM.not_panicked)))))))))))) (fun w_ _ => (by kernel_rfl)) trivial ?_
                  refine DW.take (T := fun _ => True) 36 (.bool ((((fs.getD k factE.dflt)).id : Int) == ((l.getD i actE.dflt)).id)) rfl (by kernel_rfl) rfl (by kernel_rfl) (.inl fun _ => trivial) (by kernel_rfl) (Deaf.thens (Deaf.block (Deaf.thens (Deaf.thens (Deaf.block (Deaf.thens (Deaf.block (Deaf.thens (Deaf.thens (Deaf.block (Deaf.thens (Deaf.body RetM.not_panicked)))))))))))) (fun w_ _ => (by kernel_rfl)) trivial ?_
                  refine DW.take (T := fun _ => True) 37 (.bool ((((fs.getD k factE.dflt)).id : Int) == ((l.getD i actE.dflt)).id)) rfl (by kernel_rfl) rfl (by kernel_rfl) (.inl fun _ => trivial) (by kernel_rfl) (Deaf.thens (Deaf.block (Deaf.thens (Deaf.thens (Deaf.block (Deaf.thens (Deaf.block (Deaf.thens (Deaf.thens (Deaf.block (Deaf.thens (Deaf.body RetM.not_panicked)))))))))))) (fun w_ _ => (by kernel_rfl)) trivial ?_
                  refine DW.done (by kernel_rfl) ?_
                  refine EX.then_code ?_
                  refine CW.cond ((((fs.getD k factE.dflt)).id : Int) == ((l.getD i actE.dflt)).id) (by kernel_rfl) (by kernel_rfl) (fun c49 => ?_) (fun c49 => ?_)
                  ·
                    skip
                    have d50 := eq_of_beq c49
                    refine CW.region ?_
                    refine WL.q (.int .i64 (k : Int)) (by kernel_rfl) rfl (by kernel_rfl) (by kernel_rfl) ?_
                    refine WL.q (.int .i64 (k : Int)) (by kernel_rfl) rfl (by kernel_rfl) (by kernel_rfl) ?_
                    refine WL.nil ?_
                    refine EX.in_block ?_
                    refine EX.then_code ?_
                    refine CW.region ?_
                    refine WL.q (.int .i64 (k : Int)) (by kernel_rfl) rfl (by kernel_rfl) (by kernel_rfl) ?_
                    refine WL.q (.int .i64 ((k + 1 : Nat) : Int)) (by kernel_rfl) rfl (by kernel_rfl) (q_int (x := IntKind.i64.wrap ((k : Int) + 1)) (by kernel_rfl) (wrap_to (by omega) (by omega) (by omega))) ?_
                    refine WL.q (.int .i64 ((k + 1 : Nat) : Int)) (by kernel_rfl) rfl (by kernel_rfl) (by kernel_rfl) ?_
                    refine WL.nil ?_
                    exact EX.then_loop (k + 1) ⟨(by kernel_rfl), (by kernel_rfl), (by kernel_rfl), (by kernel_rfl), (by kernel_rfl), (by kernel_rfl), (lk_val (x := (.int .i64 (k : Int))) (by kernel_rfl) (congrArg (Value.int .i64) (atK_yes (by simp only [qF, c31, c47, c49, Bool.true_and, Bool.and_true, Bool.false_and, Bool.and_false, Bool.or_true, Bool.true_or, Bool.or_false, Bool.false_or])))), (lk_int (x := ((k + 1 : Nat) : Int)) (by kernel_rfl) (by first | omega | (dsimp only; omega) | rfl | (dsimp only; rfl))), trivial⟩ ⟨h28, l28, (G28.drew), (by first | omega | assumption | (dsimp only [List.length_nil, List.length_append, List.length_cons]; omega))⟩ (by first | omega | (dsimp only; omega))
                  ·
                    skip
                    have d51 := ne_of_beq_false c49
                    refine CW.skip ?_
                    refine EX.in_block ?_
                    refine EX.then_code ?_
                    refine CW.region ?_
                    refine WL.q (.int .i64 (k : Int)) (by kernel_rfl) rfl (by kernel_rfl) (by kernel_rfl) ?_
                    refine WL.q (.int .i64 ((k + 1 : Nat) : Int)) (by kernel_rfl) rfl (by kernel_rfl) (q_int (x := IntKind.i64.wrap ((k : Int) + 1)) (by kernel_rfl) (wrap_to (by omega) (by omega) (by omega))) ?_
                    refine WL.q (.int .i64 ((k + 1 : Nat) : Int)) (by kernel_rfl) rfl (by kernel_rfl) (by kernel_rfl) ?_
                    refine WL.nil ?_
                    exact EX.then_loop (k + 1) ⟨(by kernel_rfl), (by kernel_rfl), (by kernel_rfl), (by kernel_rfl), (by kernel_rfl), (by kernel_rfl), (lk_val (x := (.int .i64 (atK fs (qF (l.getD i actE.dflt).op (l.getD i actE.dflt).id (l.getD i actE.dflt).t (l.getD i actE.dflt).vals) k))) (by kernel_rfl) (congrArg (Value.int .i64) (atK_no (by simp only [qF, c31, c47, c49, Bool.true_and, Bool.and_true, Bool.false_and, Bool.and_false, Bool.or_true, Bool.true_or, Bool.or_false, Bool.false_or])))), (lk_int (x := ((k + 1 : Nat) : Int)) (by kernel_rfl) (by first | omega | (dsimp only; omega) | rfl | (dsimp only; rfl))), trivial⟩ ⟨h28, l28, (G28.drew), (by first | omega | assumption | (dsimp only [List.length_nil, List.length_append, List.length_cons]; omega))⟩ (by first | omega | (dsimp only; omega))
                ·
                  skip
                  have d52 := ne_of_beq_false c47
                  refine DW.know 99 (.bool false) (x := .bool ((((l.getD i actE.dflt)).op : Int) == 2)) (by kernel_rfl) (congrArg Value.bool c47) ?_
                  refine DW.skip 28 rfl (by kernel_rfl) rfl (by kernel_rfl) (by kernel_rfl) (Deaf.thens (Deaf.block (Deaf.thens (Deaf.thens (Deaf.block (Deaf.thens (Deaf.block (Deaf.thens (Deaf.thens (Deaf.block (Deaf.thens (Deaf.body RetM.not_panicked)))))))))))) ?_
                  refine DW.skip 29 rfl (by kernel_rfl) rfl (by kernel_rfl) (by kernel_rfl) (Deaf.thens (Deaf.block (Deaf.thens (Deaf.thens (Deaf.block (Deaf.thens (Deaf.block (Deaf.thens (Deaf.thens (Deaf.block (Deaf.thens (Deaf.body RetM.not_panicked)))))))))))) ?_
                  refine DW.skip 30 rfl (by kernel_rfl) rfl (by kernel_rfl) (by kernel_rfl) (Deaf.thens (Deaf.block (Deaf.thens (Deaf.thens (Deaf.block (Deaf.thens (Deaf.block (Deaf.thens (Deaf.thens (Deaf.block (Deaf.thens (Deaf.body RetM.not_panicked)))))))))))) ?_
                  refine DW.skip 31 rfl (by kernel_rfl) rfl (by kernel_rfl) (by kernel_rfl) (Deaf.thens (Deaf.block (Deaf.thens (Deaf.thens (Deaf.block (Deaf.thens (Deaf.block (Deaf.thens (Deaf.thens (Deaf.block (Deaf.thens (Deaf.body RetM.not_panicked)))))))))))) ?_
                  refine DW.skip 32 rfl (by kernel_rfl) rfl (by kernel_rfl) (by kernel_rfl) (Deaf.thens (Deaf.block (Deaf.thens (Deaf.thens (Deaf.block (Deaf.thens (Deaf.block (Deaf.thens (Deaf.thens (Deaf.block (Deaf.thens (Deaf.body RetM.not_panicked)))))))))))) ?_
                  refine DW.skip 33 rfl (by kernel_rfl) rfl (by kernel_rfl) (by kernel_rfl) (Deaf.thens (Deaf.block (Deaf.thens (Deaf.thens (Deaf.block (Deaf.thens (Deaf.block (Deaf.thens (Deaf.thens (Deaf.block (Deaf.thens (Deaf.body RetM.not_panicked)))))))))))) ?_
                  refine DW.skip 34 rfl (by kernel_rfl) rfl (by kernel_rfl) (by kernel_rfl) (Deaf.thens (Deaf.block (Deaf.thens (Deaf.thens (Deaf.block (Deaf.thens (Deaf.block (Deaf.thens (Deaf.thens (Deaf.block (Deaf.thens (Deaf.body RetM.not_panicked)))))))))))) ?_
                  refine DW.skip 35 rfl (by kernel_rfl) rfl (by kernel_rfl) (by kernel_rfl) (Deaf.thens (Deaf.block (Deaf.thens (Deaf.thens (Deaf.block (Deaf.thens (Deaf.block (Deaf.thens (Deaf.thens (Deaf.block (Deaf.thens (Deaf.body RetM.not_panicked)))))))))))) ?_
                  refine DW.take (T := fun _ => True) 36 (.bool false) rfl (by kernel_rfl) rfl (by kernel_rfl) (.inl fun _ => trivial) (by kernel_rfl) (Deaf.thens (Deaf.block (Deaf.thens (Deaf.thens (Deaf.block (Deaf.thens (Deaf.block (Deaf.thens (Deaf.thens (Deaf.block (Deaf.thens (Deaf.body RetM.not_panicked)))))))))))) (fun w_ _ => (by kernel_rfl)) trivial ?_
                  refine DW.take (T := fun _ => True) 37 (.bool false) rfl (by kernel_rfl) rfl (by kernel_rfl) (.inl fun _ => trivial) (by kernel_rfl) (Deaf.thens (Deaf.block (Deaf.thens (Deaf.thens (Deaf.block (Deaf.thens (Deaf.block (Deaf.thens (Deaf.thens (Deaf.block (Deaf.thens (Deaf.body RetM.not_panicked)))))))))))) (fun w_ _ => (by kernel_rfl)) trivial ?_
                  refine DW.done (by kernel_rfl) ?_
                  refine EX.then_code ?_
                  refine CW.cond_f (by kernel_rfl) (by kernel_rfl) ?_
                  refine CW.skip ?_
                  refine EX.in_block ?_
                  refine EX.then_code ?_
                  refine CW.region ?_
                  refine WL.q (.int .i64 (k : Int)) (by kernel_rfl) rfl (by kernel_rfl) (by kernel_rfl) ?_
                  refine WL.q (.int .i64 ((k + 1 : Nat) : Int)) (by kernel_rfl) rfl (by kernel_rfl) (q_int (x := IntKind.i64.wrap ((k : Int) + 1)) (by kernel_rfl) (wrap_to (by omega) (by omega) (by omega))) ?_
                  refine WL.q (.int .i64 ((k + 1 : Nat) : Int)) (by kernel_rfl) rfl (by kernel_rfl) (by kernel_rfl) ?_
                  refine WL.nil ?_
                  exact EX.then_loop (k + 1) ⟨(by kernel_rfl), (by kernel_rfl), (by kernel_rfl), (by kernel_rfl), (by kernel_rfl), (by kernel_rfl), (lk_val (x := (.int .i64 (atK fs (qF (l.getD i actE.dflt).op (l.getD i actE.dflt).id (l.getD i actE.dflt).t (l.getD i actE.dflt).vals) k))) (by kernel_rfl) (congrArg (Value.int .i64) (atK_no (by simp only [qF, c31, c47, Bool.true_and, Bool.and_true, Bool.false_and, Bool.and_false, Bool.or_true, Bool.true_or, Bool.or_false, Bool.false_or])))), (lk_int (x := ((k + 1 : Nat) : Int)) (by kernel_rfl) (by first | omega | (dsimp only; omega) | rfl | (dsimp only; rfl))), trivial⟩ ⟨h28, l28, (G28.drew), (by first | omega | assumption | (dsimp only [List.length_nil, List.length_append, List.length_cons]; omega))⟩ (by first | omega | (dsimp only; omega))
            ·
              skip
              have d53 := of_decide_eq_false c29
              refine CW.exit ?_
              refine EX.exit_then ?_
              refine EX.exit_then ?_
              refine EX.exit_here ?_
              refine EX.then_code ?_
              refine CW.cut (β := Nat × List FactD × Option Addr × Nat × Int) (fun x_ => [(0, (.slice a l.length c)), (3, (.pointer (some ⟨x_.1, 0, none⟩))), (4, (.slice x_.2.2.1 x_.2.1.length x_.2.2.2.1)), (5, (.int .i64 x_.2.2.2.2)), (6, (.int .i64 (i : Int)))]) (fun x_ w_ => ∃ h_ M0_, (PH.le h28 h_) ∧ (Wld K w_ h_ M0_) ∧ (MemA h_ x_.1 (x_.2.1.map dat) x_.2.2.2.2 M M0_) ∧ (RS h_ factE x_.2.2.1 x_.2.1) ∧ (∀ e_ ∈ x_.2.1, factG h_ e_) ∧ (x_.2.1.length ≤ i + 1) ∧ (x_.2.1.length ≤ x_.2.2.2.1) ∧ (1 ≤ x_.2.2.2.2 ∧ x_.2.2.2.2 ≤ (i : Int) + 2)) ?_ ?_
              ·
                skip
                refine CW.seq ?_
                refine CW.region ?_
                refine WL.q (.pointer (some ⟨b9, 0, none⟩)) (by kernel_rfl) rfl (by kernel_rfl) (by kernel_rfl) ?_
                refine WL.q (.int .i64 (((l.getD i actE.dflt)).op)) (by kernel_rfl) rfl (by kernel_rfl) (q_load (off := 0) rfl (by kernel_rfl) (by kernel_rfl) (G28.imm _ _ ((l18.trans l28) _ _ hb11)) (by kernel_rfl)) ?_
                refine WL.nil ?_
                refine EX.then_code ?_
                refine CW.block ?_
                refine CW.seq ?_
                refine CW.region ?_
                refine WL.q (.bool ((((l.getD i actE.dflt)).op : Int) == 1)) (by kernel_rfl) rfl (by kernel_rfl) (by kernel_rfl) ?_
                refine WL.q (.bool ((((l.getD i actE.dflt)).op : Int) == 1)) (by kernel_rfl) rfl (by kernel_rfl) (by kernel_rfl) ?_
                refine WL.nil ?_
                refine EX.then_code ?_
                refine CW.cond ((((l.getD i actE.dflt)).op : Int) == 1) (by kernel_rfl) (by kernel_rfl) (fun c54 => ?_) (fun c54 => ?_)
                ·
                  skip
                  have d55 := eq_of_beq c54
                  refine CW.seq ?_
                  refine CW.region ?_
                  refine WL.q (.pointer (some ⟨p, 0, none⟩)) (by kernel_rfl) rfl (by kernel_rfl) (by kernel_rfl) ?_
                  refine WL.q (.pointer (some ⟨b9, 2, none⟩)) (by kernel_rfl) rfl (by kernel_rfl) (by kernel_rfl) ?_
                  refine WL.q (.string (((l.getD i actE.dflt)).t)) (by kernel_rfl) rfl (by kernel_rfl) (q_load (off := 2) rfl (by kernel_rfl) (by kernel_rfl) (G28.imm _ _ ((l18.trans l28) _ _ hb11)) (by kernel_rfl)) ?_
                  refine WL.q (.pointer (some ⟨b9, 3, none⟩)) (by kernel_rfl) rfl (by kernel_rfl) (by kernel_rfl) ?_
                  refine WL.q (.slice (((l.getD i actE.dflt)).a) (((l.getD i actE.dflt)).vals.length) (((l.getD i actE.dflt)).c)) (by kernel_rfl) rfl (by kernel_rfl) (q_load (off := 3) rfl (by kernel_rfl) (by kernel_rfl) (G28.imm _ _ ((l18.trans l28) _ _ hb11)) (by kernel_rfl)) ?_
                  rcases atK_cases fs (qF (l.getD i actE.dflt).op (l.getD i actE.dflt).id (l.getD i actE.dflt).t (l.getD i actE.dflt).vals) fs.length with ⟨hat, hno⟩ | ⟨j, hj, hat, hyes⟩
                  ·
                    skip
                    refine WL.know 9 (.int .i64 (-1)) (x := .int .i64 (atK fs (qF (l.getD i actE.dflt).op (l.getD i actE.dflt).id (l.getD i actE.dflt).t (l.getD i actE.dflt).vals) k)) (by kernel_rfl) (congrArg (Value.int .i64) (by rw [show k = fs.length by omega]; exact hat)) ?_
                    have hop := eq_of_beq c54
                    rw [hop] at hno
                    have hl := look_no hno
                    refine WL.call (by kernel_rfl) rfl (by kernel_rfl) (by kernel_rfl) (findA G28 (MemA.mono ((l11.trans l18).trans l28) o_mem6) (PH.le_refl _) (T.mono (((((l1.trans l5).trans l6).trans l11).trans l18).trans l28)) (a := (((l.getD i actE.dflt)).a)) (xs := (((l.getD i actE.dflt)).vals)) (c := (((l.getD i actE.dflt)).c)) (((Gl (l.getD i actE.dflt) (getD_mem (d := actE.dflt) (show i < l.length from (by omega))))).1.mono (((((l1.trans l5).trans l6).trans l11).trans l18).trans l28)) hok) (Ret.elim ?_)
                    rintro w56 h56 _ l56 G56 rfl
                    refine WL.know 121 (.tuple #[(.int .i64 0), (.bool false)]) (x := (.tuple #[(.int .i64 ((lookA (fs.map dat) (((l.getD i actE.dflt)).t) (((l.getD i actE.dflt)).vals)).getD 0)), (.bool ((lookA (fs.map dat) (((l.getD i actE.dflt)).t) (((l.getD i actE.dflt)).vals)).isSome))])) (by kernel_rfl) (by rw [hl]; rfl) ?_
                    refine WL.q (.tuple #[(.int .i64 0), (.bool false)]) (by kernel_rfl) rfl (by kernel_rfl) (by kernel_rfl) ?_
                    refine WL.q (.int .i64 0) (by kernel_rfl) rfl (by kernel_rfl) (by kernel_rfl) ?_
                    refine WL.q (.bool false) (by kernel_rfl) rfl (by kernel_rfl) (by kernel_rfl) ?_
                    refine WL.q (.int .i64 0) (by kernel_rfl) rfl (by kernel_rfl) (by kernel_rfl) ?_
                    refine WL.q (.bool false) (by kernel_rfl) rfl (by kernel_rfl) (by kernel_rfl) ?_
                    refine WL.nil ?_
                    refine EX.then_code ?_
                    refine CW.seq ?_
                    refine CW.region ?_
                    refine WL.q (.pointer (some ⟨p, 0, none⟩)) (by kernel_rfl) rfl (by kernel_rfl) (by kernel_rfl) ?_
                    refine WL.q (.pointer (some ⟨b9, 2, none⟩)) (by kernel_rfl) rfl (by kernel_rfl) (by kernel_rfl) ?_
                    refine WL.q (.string (((l.getD i actE.dflt)).t)) (by kernel_rfl) rfl (by kernel_rfl) (q_load (off := 2) rfl (by kernel_rfl) (by kernel_rfl) (G56.imm _ _ (((l18.trans l28).trans l56) _ _ hb11)) (by kernel_rfl)) ?_
                    refine WL.q (.pointer (some ⟨b9, 3, none⟩)) (by kernel_rfl) rfl (by kernel_rfl) (by kernel_rfl) ?_
                    refine WL.q (.slice (((l.getD i actE.dflt)).a) (((l.getD i actE.dflt)).vals.length) (((l.getD i actE.dflt)).c)) (by kernel_rfl) rfl (by kernel_rfl) (q_load (off := 3) rfl (by kernel_rfl) (by kernel_rfl) (G56.imm _ _ (((l18.trans l28).trans l56) _ _ hb11)) (by kernel_rfl)) ?_
                    refine WL.call (by kernel_rfl) rfl (by kernel_rfl) (by kernel_rfl) (assertA_new G56 (MemA.mono (((l11.trans l18).trans l28).trans l56) o_mem6) (T.mono ((((((l1.trans l5).trans l6).trans l11).trans l18).trans l28).trans l56)) (t := (((l.getD i actE.dflt)).t)) (a := (((l.getD i actE.dflt)).a)) (xs := (((l.getD i actE.dflt)).vals)) (c := (((l.getD i actE.dflt)).c)) (((Gl (l.getD i actE.dflt) (getD_mem (d := actE.dflt) (show i < l.length from (by omega))))).1.mono ((((((l1.trans l5).trans l6).trans l11).trans l18).trans l28).trans l56)) hok hl (by rw [List.length_map]; omega) (by omega)) (RetM.elim ?_)
                    rintro w57 h57 M57 _ l57 G57 ⟨rfl, A57⟩
                    refine WL.q (.tuple #[(.int .i64 nx), (.bool true), (.int .i64 0)]) (by kernel_rfl) rfl (by kernel_rfl) (by kernel_rfl) ?_
                    refine WL.q (.int .i64 nx) (by kernel_rfl) rfl (by kernel_rfl) (by kernel_rfl) ?_
                    refine WL.q (.bool true) (by kernel_rfl) rfl (by kernel_rfl) (by kernel_rfl) ?_
                    refine WL.q (.int .i64 0) (by kernel_rfl) rfl (by kernel_rfl) (by kernel_rfl) ?_
                    refine WL.q (.int .i64 nx) (by kernel_rfl) rfl (by kernel_rfl) (by kernel_rfl) ?_
                    refine WL.q (.bool true) (by kernel_rfl) rfl (by kernel_rfl) (by kernel_rfl) ?_
                    refine WL.q (.int .i64 0) (by kernel_rfl) rfl (by kernel_rfl) (by kernel_rfl) ?_
                    refine WL.nil ?_
                    refine EX.then_code ?_
                    refine CW.seq ?_
                    refine CW.seq ?_
                    refine CW.region ?_
                    refine WL.q (.int .i64 0) (by kernel_rfl) rfl (by kernel_rfl) (by kernel_rfl) ?_
                    refine WL.q (.bool false) (by kernel_rfl) rfl (by kernel_rfl) (by kernel_rfl) ?_
                    refine WL.q (.bool false) (by kernel_rfl) rfl (by kernel_rfl) (by kernel_rfl) ?_
                    refine WL.q (.bool false) (by kernel_rfl) rfl (by kernel_rfl) (by kernel_rfl) ?_
                    refine WL.q (.int .i64 (-1)) (by kernel_rfl) rfl (by kernel_rfl) (by kernel_rfl) ?_
                    refine WL.q (.bool false) (by kernel_rfl) rfl (by kernel_rfl) (by kernel_rfl) ?_
                    refine WL.q (.bool false) (by kernel_rfl) rfl (by kernel_rfl) (by kernel_rfl) ?_
                    refine WL.q (.bool false) (by kernel_rfl) rfl (by kernel_rfl) (by kernel_rfl) ?_
                    refine WL.q (.bool false) (by kernel_rfl) rfl (by kernel_rfl) (by kernel_rfl) ?_
                    refine WL.q (.bool true) (by kernel_rfl) rfl (by kernel_rfl) (by kernel_rfl) ?_
                    refine WL.q (.bool false) (by kernel_rfl) rfl (by kernel_rfl) (by kernel_rfl) ?_
                    refine WL.q (.bool false) (by kernel_rfl) rfl (by kernel_rfl) (by kernel_rfl) ?_
                    refine WL.q (.bool false) (by kernel_rfl) rfl (by kernel_rfl) (by kernel_rfl) ?_
                    refine WL.q (.bool false) (by kernel_rfl) rfl (by kernel_rfl) (by kernel_rfl) ?_
                    refine WL.q (.bool false) (by kernel_rfl) rfl (by kernel_rfl) (by kernel_rfl) ?_
                    refine WL.q (.bool false) (by kernel_rfl) rfl (by kernel_rfl) (by kernel_rfl) ?_
                    refine WL.skip (by kernel_rfl) rfl (by kernel_rfl) ?_
                    refine WL.skip (by kernel_rfl) rfl (by kernel_rfl) ?_
                    refine WL.skip (by kernel_rfl) rfl (by kernel_rfl) ?_
                    refine WL.q (.bool false) (by kernel_rfl) rfl (by kernel_rfl) (by kernel_rfl) ?_
                    refine WL.q (.bool false) (by kernel_rfl) rfl (by kernel_rfl) (by kernel_rfl) ?_
                    refine WL.nil ?_
                    refine EX.then_code ?_
                    refine CW.cond_f (by kernel_rfl) (by kernel_rfl) ?_
                    refine CW.skip ?_
                    refine EX.then_code ?_
                    refine CW.seq ?_
                    refine CW.seq ?_
                    refine CW.region ?_
                    refine WL.q (.bool true) (by kernel_rfl) rfl (by kernel_rfl) (by kernel_rfl) ?_
                    refine WL.nil ?_
                    refine EX.then_code ?_
                    refine CW.cond_t (by kernel_rfl) (by kernel_rfl) ?_
                    refine CW.seq ?_
                    refine CW.draw (by kernel_rfl) [(5, fun w_ => PH.all w_ b9 = some (.cells #[(.int .i64 (((l.getD i actE.dflt)).op)), (.int .i64 (((l.getD i actE.dflt)).id)), (.string (((l.getD i actE.dflt)).t)), (.slice (((l.getD i actE.dflt)).a) (((l.getD i actE.dflt)).vals.length) (((l.getD i actE.dflt)).c))] 50 (0, 0))), (8, fun w_ => PH.all w_ b9 = some (.cells #[(.int .i64 (((l.getD i actE.dflt)).op)), (.int .i64 (((l.getD i actE.dflt)).id)), (.string (((l.getD i actE.dflt)).t)), (.slice (((l.getD i actE.dflt)).a) (((l.getD i actE.dflt)).vals.length) (((l.getD i actE.dflt)).c))] 50 (0, 0)))] ?_
                    refine DW.take (T := fun _ => True) 1 (.slice ao fs.length co) rfl (by kernel_rfl) rfl (by kernel_rfl) (.inl fun _ => trivial) (by kernel_rfl) (Deaf.thens (Deaf.thens (Deaf.block (Deaf.thens (Deaf.block (Deaf.thens (Deaf.thens (Deaf.block (Deaf.thens (Deaf.body RetM.not_panicked)))))))))) (fun w_ _ => (by kernel_rfl)) trivial ?_
                    refine DW.take (T := fun _ => True) 3 (.int .i64 nx) rfl (by kernel_rfl) rfl (by kernel_rfl) (.inl fun _ => trivial) (by kernel_rfl) (Deaf.thens (Deaf.thens (Deaf.block (Deaf.thens (Deaf.block (Deaf.thens (Deaf.thens (Deaf.block (Deaf.thens (Deaf.body RetM.not_panicked)))))))))) (fun w_ _ => (by kernel_rfl)) trivial ?_
                    refine DW.take (T := fun _ => True) 4 (.pointer (some ⟨b9, 2, none⟩)) rfl (by kernel_rfl) rfl (by kernel_rfl) (.inl fun _ => trivial) (by kernel_rfl) (Deaf.thens (Deaf.thens (Deaf.block (Deaf.thens (Deaf.block (Deaf.thens (Deaf.thens (Deaf.block (Deaf.thens (Deaf.body RetM.not_panicked)))))))))) (fun w_ _ => (by kernel_rfl)) trivial ?_
                    refine DW.take (T := fun w_ => PH.all w_ b9 = some (.cells #[(.int .i64 (((l.getD i actE.dflt)).op)), (.int .i64 (((l.getD i actE.dflt)).id)), (.string (((l.getD i actE.dflt)).t)), (.slice (((l.getD i actE.dflt)).a) (((l.getD i actE.dflt)).vals.length) (((l.getD i actE.dflt)).c))] 50 (0, 0))) 5 (.string (((l.getD i actE.dflt)).t)) rfl (by kernel_rfl) rfl (by kernel_rfl) (.inr (by first | exact .head _ | exact .tail _ (.head _) | exact .tail _ (.tail _ (.head _)) | exact .tail _ (.tail _ (.tail _ (.head _))) | simp)) (by kernel_rfl) (Deaf.thens (Deaf.thens (Deaf.block (Deaf.thens (Deaf.block (Deaf.thens (Deaf.thens (Deaf.block (Deaf.thens (Deaf.body RetM.not_panicked)))))))))) (fun w_ T_ => (q_load (off := 2) rfl (by kernel_rfl) (by kernel_rfl) T_ (by kernel_rfl))) ((G57.drew).imm _ _ ((((l18.trans l28).trans l56).trans l57) _ _ hb11)) ?_
                    refine DW.take (T := fun _ => True) 7 (.pointer (some ⟨b9, 3, none⟩)) rfl (by kernel_rfl) rfl (by kernel_rfl) (.inl fun _ => trivial) (by kernel_rfl) (Deaf.thens (Deaf.thens (Deaf.block (Deaf.thens (Deaf.block (Deaf.thens (Deaf.thens (Deaf.block (Deaf.thens (Deaf.body RetM.not_panicked)))))))))) (fun w_ _ => (by kernel_rfl)) trivial ?_
                    refine DW.take (T := fun w_ => PH.all w_ b9 = some (.cells #[(.int .i64 (((l.getD i actE.dflt)).op)), (.int .i64 (((l.getD i actE.dflt)).id)), (.string (((l.getD i actE.dflt)).t)), (.slice (((l.getD i actE.dflt)).a) (((l.getD i actE.dflt)).vals.length) (((l.getD i actE.dflt)).c))] 50 (0, 0))) 8 (.slice (((l.getD i actE.dflt)).a) (((l.getD i actE.dflt)).vals.length) (((l.getD i actE.dflt)).c)) rfl (by kernel_rfl) rfl (by kernel_rfl) (.inr (by first | exact .head _ | exact .tail _ (.head _) | exact .tail _ (.tail _ (.head _)) | exact .tail _ (.tail _ (.tail _ (.head _))) | simp)) (by kernel_rfl) (Deaf.thens (Deaf.thens (Deaf.block (Deaf.thens (Deaf.block (Deaf.thens (Deaf.thens (Deaf.block (Deaf.thens (Deaf.body RetM.not_panicked)))))))))) (fun w_ T_ => (q_load (off := 3) rfl (by kernel_rfl) (by kernel_rfl) T_ (by kernel_rfl))) ((G57.drew).imm _ _ ((((l18.trans l28).trans l56).trans l57) _ _ hb11)) ?_
                    refine DW.two 0 6 (by kernel_rfl) ?_ ?_
                    ·
                      skip
                      refine DOp.ex rfl (by kernel_rfl) rfl (by kernel_rfl) (q_newB (ob := (.cells #[] 43 (0, 0))) (G57.drew) (fun b_ => .slice (some ⟨b_, 0, none⟩) 0 0) (fun u_ => by kernel_rfl)) (fun v_ w58 p_ => by obtain ⟨b58, M58, rfl, G58, B58, L58⟩ := p_; exact ⟨.inr (fun _ => (G58.imm _ _ ((((l18.trans l28).trans l56).trans l57) _ _ hb11))), .inr (fun _ => (G58.imm _ _ ((((l18.trans l28).trans l56).trans l57) _ _ hb11))), trivial⟩) ?_
                      rintro _ w58 ⟨b58, M58, rfl, G58, B58, L58⟩
                      have o58 : Own 43 factE M57 M58 (some ⟨b58, 0, none⟩) 0 ([] : List _) := Own.lit2 B58 (by kernel_rfl) (by kernel_rfl) (by decide)
                      have g58 : ∀ e_ ∈ ([] : List _), factG h57 e_ := all_nil
                      refine DW.two 2 6 (by kernel_rfl) ?_ ?_
                      ·
                        skip
                        refine DOp.ex rfl (by kernel_rfl) rfl (by kernel_rfl) (q_app (e := 43) (bytes := 48) (cap := 0) (c2 := co) (M0 := M57) (xs := ([] : List _)) (ys := fs) G58 o58 (f_row6.mono (((((l11.trans l18).trans l28).trans l56).trans l57).trans G58.imm)) rfl (by kernel_rfl) (by kernel_rfl) (by kernel_rfl) (by first | (simp [maxLen]; omega) | (simp only [maxLen, List.length_append, List.length_cons, List.length_nil, List.length_take, List.length_drop]; omega) | (simp only [maxLen]; omega)) (by first | omega | (simp; omega) | (simp only [List.length_append, List.length_cons, List.length_nil, List.length_take, List.length_drop]; omega))) (fun v_ w59 p_ => by obtain ⟨a59, k59, M59, rfl, G59, o59, z59⟩ := p_; exact ⟨.inr (fun _ => (G59.imm _ _ ((((l18.trans l28).trans l56).trans l57) _ _ hb11))), .inr (fun _ => (G59.imm _ _ ((((l18.trans l28).trans l56).trans l57) _ _ hb11))), trivial⟩) ?_
                        rintro _ w59 ⟨a59, k59, M59, rfl, G59, o59, z59⟩
                        have g59 : ∀ e_ ∈ ([] ++ fs), factG h57 e_ := all_app g58 (all_up @factG.mono ((((l11.trans l18).trans l28).trans l56).trans l57) fg_row6)
                        refine DW.only 6 (by kernel_rfl) ?_
                        refine DOp.ex rfl (by kernel_rfl) rfl (by kernel_rfl) (q_newB (ob := (.cells #[] 29 (0, 0))) G59 (fun b_ => .slice (some ⟨b_, 0, none⟩) 0 0) (fun u_ => by kernel_rfl)) (fun v_ w60 p_ => by obtain ⟨b60, M60, rfl, G60, B60, L60⟩ := p_; exact ⟨.inr (fun _ => (G60.imm _ _ ((((l18.trans l28).trans l56).trans l57) _ _ hb11))), .inr (fun _ => (G60.imm _ _ ((((l18.trans l28).trans l56).trans l57) _ _ hb11))), trivial⟩) ?_
                        rintro _ w60 ⟨b60, M60, rfl, G60, B60, L60⟩
                        have o60 : Own 29 valE M59 M60 (some ⟨b60, 0, none⟩) 0 ([] : List _) := Own.lit2 B60 (by kernel_rfl) (by kernel_rfl) (by decide)
                        refine DW.only 9 (by kernel_rfl) ?_
                        refine DOp.ex rfl (by kernel_rfl) rfl (by kernel_rfl) (q_app (e := 29) (bytes := 32) (cap := 0) (c2 := (((l.getD i actE.dflt)).c)) (M0 := M59) (xs := ([] : List _)) (ys := (((l.getD i actE.dflt)).vals)) G60 o60 (((Gl (l.getD i actE.dflt) (getD_mem (d := actE.dflt) (show i < l.length from (by omega))))).1.mono ((((((((l1.trans l5).trans l6).trans l11).trans l18).trans l28).trans l56).trans l57).trans G60.imm)) rfl (by kernel_rfl) (by kernel_rfl) (by kernel_rfl) (by first | (simp [maxLen]; omega) | (simp only [maxLen, List.length_append, List.length_cons, List.length_nil, List.length_take, List.length_drop]; omega) | (simp only [maxLen]; omega)) (by first | omega | (simp; omega) | (simp only [List.length_append, List.length_cons, List.length_nil, List.length_take, List.length_drop]; omega))) (fun v_ w61 p_ => by obtain ⟨a61, k61, M61, rfl, G61, o61, z61⟩ := p_; exact ⟨.inr (fun _ => (G61.imm _ _ ((((l18.trans l28).trans l56).trans l57) _ _ hb11))), .inl (by kernel_rfl), trivial⟩) ?_
                        rintro _ w61 ⟨a61, k61, M61, rfl, G61, o61, z61⟩
                        refine DW.take (T := fun _ => True) 10 (.agg #[(.int .i64 nx), (.string (((l.getD i actE.dflt)).t)), (.slice a61 (([] ++ (((l.getD i actE.dflt)).vals)).length) k61)]) rfl (by kernel_rfl) rfl (by kernel_rfl) (.inl fun _ => trivial) (by kernel_rfl) (Deaf.thens (Deaf.thens (Deaf.block (Deaf.thens (Deaf.block (Deaf.thens (Deaf.thens (Deaf.block (Deaf.thens (Deaf.body RetM.not_panicked)))))))))) (fun w_ _ => (by kernel_rfl)) trivial ?_
                        refine DW.only 11 (by kernel_rfl) ?_
                        obtain ⟨h62, l62, G62, r62⟩ := o61.freeze G61
                        refine DOp.ex rfl (by kernel_rfl) rfl (by kernel_rfl) (q_newF (ob := (.cells #[(.int .i64 nx), (.string (((l.getD i actE.dflt)).t)), (.slice a61 (([] ++ (((l.getD i actE.dflt)).vals)).length) k61)] 43 (0, 0))) G62 (fun b_ => .slice (some ⟨b_, 0, none⟩) 1 1) (fun u_ => by kernel_rfl)) (fun v_ w63 p_ => by obtain ⟨b63, h63, rfl, l63, G63, hb63, L63⟩ := p_; exact ⟨.inr (fun _ => (G63.imm _ _ ((((((l18.trans l28).trans l56).trans l57).trans l62).trans l63) _ _ hb11))), .inr (fun _ => (G63.imm _ _ ((((((l18.trans l28).trans l56).trans l57).trans l62).trans l63) _ _ hb11))), trivial⟩) ?_
                        rintro _ w63 ⟨b63, h63, rfl, l63, G63, hb63, L63⟩
                        have r64 : RS h63 factE (some ⟨b63, 0, none⟩) [(FactD.mk nx (((l.getD i actE.dflt)).t) a61 ([] ++ (((l.getD i actE.dflt)).vals)) k61)] := RS.blk hb63 (by kernel_rfl)
                        have g64 : ∀ e_ ∈ [(FactD.mk nx (((l.getD i actE.dflt)).t) a61 ([] ++ (((l.getD i actE.dflt)).vals)) k61)], factG h63 e_ := (all_one (show factG h63 (FactD.mk nx (((l.getD i actE.dflt)).t) a61 ([] ++ (((l.getD i actE.dflt)).vals)) k61) from (r62.mono l63)))
                        refine DW.only 12 (by kernel_rfl) ?_
                        refine DOp.ex rfl (by kernel_rfl) rfl (by kernel_rfl) (q_app (e := 43) (bytes := 48) (cap := k59) (c2 := 1) (M0 := M57) (xs := ([] ++ fs)) (ys := ([(FactD.mk nx (((l.getD i actE.dflt)).t) a61 ([] ++ (((l.getD i actE.dflt)).vals)) k61)])) G63 o59 (r64.mono ((PH.le_refl _).trans G63.imm)) rfl (by kernel_rfl) (by kernel_rfl) (by kernel_rfl) (by first | (simp [maxLen]; omega) | (simp only [maxLen, List.length_append, List.length_cons, List.length_nil, List.length_take, List.length_drop]; omega) | (simp only [maxLen]; omega)) (by first | omega | (simp; omega) | (simp only [List.length_append, List.length_cons, List.length_nil, List.length_take, List.length_drop]; omega))) (fun v_ w65 p_ => by obtain ⟨a65, k65, M65, rfl, G65, o65, z65⟩ := p_; exact ⟨.inr (fun _ => (G65.imm _ _ ((((((l18.trans l28).trans l56).trans l57).trans l62).trans l63) _ _ hb11))), .inr (fun _ => (G65.imm _ _ ((((((l18.trans l28).trans l56).trans l57).trans l62).trans l63) _ _ hb11))), trivial⟩) ?_
                        rintro _ w65 ⟨a65, k65, M65, rfl, G65, o65, z65⟩
                        have g65 : ∀ e_ ∈ (([] ++ fs) ++ ([(FactD.mk nx (((l.getD i actE.dflt)).t) a61 ([] ++ (((l.getD i actE.dflt)).vals)) k61)])), factG h63 e_ := all_app (all_up @factG.mono (l62.trans l63) g59) g64
                        refine DW.take (T := fun _ => True) 13 (.slice a65 ((([] ++ fs) ++ ([(FactD.mk nx (((l.getD i actE.dflt)).t) a61 ([] ++ (((l.getD i actE.dflt)).vals)) k61)])).length) k65) rfl (by kernel_rfl) rfl (by kernel_rfl) (.inl fun _ => trivial) (by kernel_rfl) (Deaf.thens (Deaf.thens (Deaf.block (Deaf.thens (Deaf.block (Deaf.thens (Deaf.thens (Deaf.block (Deaf.thens (Deaf.body RetM.not_panicked)))))))))) (fun w_ _ => (by kernel_rfl)) trivial ?_
                        refine DW.done (by kernel_rfl) ?_
                        refine EX.then_code ?_
                        refine CW.seq ?_
                        refine CW.region ?_
                        refine WL.q (.slice a65 ((([] ++ fs) ++ ([(FactD.mk nx (((l.getD i actE.dflt)).t) a61 ([] ++ (((l.getD i actE.dflt)).vals)) k61)])).length) k65) (by kernel_rfl) rfl (by kernel_rfl) (by kernel_rfl) ?_
                        refine WL.q (.int .i64 ((([] ++ fs) ++ ([(FactD.mk nx (((l.getD i actE.dflt)).t) a61 ([] ++ (((l.getD i actE.dflt)).vals)) k61)])).length : Int)) (by kernel_rfl) rfl (by kernel_rfl) (by kernel_rfl) ?_
                        refine WL.know 170 (.int .i64 ((fs.length + 1 : Nat) : Int)) (x := (.int .i64 ((([] ++ fs) ++ ([(FactD.mk nx (((l.getD i actE.dflt)).t) a61 ([] ++ (((l.getD i actE.dflt)).vals)) k61)])).length : Int))) (by kernel_rfl) (congrArg (Value.int .i64) (by simp)) ?_
                        refine WL.q (.int .i64 (((fs.length + 1 : Nat) : Int) - 1)) (by kernel_rfl) rfl (by kernel_rfl) (q_int (x := IntKind.i64.wrap (((fs.length + 1 : Nat) : Int) - 1)) (by kernel_rfl) (wrap_to (by omega) (by omega) (by omega))) ?_
                        refine WL.know 171 (.int .i64 (fs.length : Int)) (x := (.int .i64 (((fs.length + 1 : Nat) : Int) - 1))) (by kernel_rfl) (congrArg (Value.int .i64) (by omega)) ?_
                        refine WL.q (.int .i64 (fs.length : Int)) (by kernel_rfl) rfl (by kernel_rfl) (by kernel_rfl) ?_
                        refine WL.nil ?_
                        refine EX.then_code ?_
                        refine CW.region ?_
                        refine WL.q (.int .i64 nx) (by kernel_rfl) rfl (by kernel_rfl) (by kernel_rfl) ?_
                        refine WL.q (.int .i64 (nx + 1)) (by kernel_rfl) rfl (by kernel_rfl) (q_int (x := IntKind.i64.wrap (nx + 1)) (by kernel_rfl) (wrap_to (by omega) (by omega) (by omega))) ?_
                        refine WL.q (.int .i64 (nx + 1)) (by kernel_rfl) rfl (by kernel_rfl) (by kernel_rfl) ?_
                        refine WL.nil ?_
                        refine EX.then_code ?_
                        refine CW.seq ?_
                        refine CW.region ?_
                        refine WL.q (.int .i64 nx) (by kernel_rfl) rfl (by kernel_rfl) (by kernel_rfl) ?_
                        refine WL.q (.slice a65 ((([] ++ fs) ++ ([(FactD.mk nx (((l.getD i actE.dflt)).t) a61 ([] ++ (((l.getD i actE.dflt)).vals)) k61)])).length) k65) (by kernel_rfl) rfl (by kernel_rfl) (by kernel_rfl) ?_
                        refine WL.q (.int .i64 (fs.length : Int)) (by kernel_rfl) rfl (by kernel_rfl) (by kernel_rfl) ?_
                        refine WL.q (eptr a65 (fs.length * factE.sz)) (by kernel_rfl) rfl (by kernel_rfl) (q_indexAddr (i := fs.length) (E := factE) (xs := (([] ++ fs) ++ ([(FactD.mk nx (((l.getD i actE.dflt)).t) a61 ([] ++ (((l.getD i actE.dflt)).vals)) k61)]))) (e := 43) (c := k65) (k := .i64) (m := ((([] ++ fs) ++ ([(FactD.mk nx (((l.getD i actE.dflt)).t) a61 ([] ++ (((l.getD i actE.dflt)).vals)) k61)])).length)) rfl rfl (by kernel_rfl) (by kernel_rfl) (by kernel_rfl) (o65.reads.mono ((PH.le_refl _).trans G65.own)) (by simp only [List.length_append, List.length_cons, List.length_nil]; omega)) ?_
                        refine WL.q (eptr a65 (fs.length * factE.sz + 0)) (by kernel_rfl) rfl (by kernel_rfl) (q_fieldAddr_e (i := fs.length) (k := fs.length * factE.sz) (off := 0) rfl (by kernel_rfl) (by kernel_rfl) (o65.reads.mono ((PH.le_refl _).trans G65.own)) (by simp only [List.length_append, List.length_cons, List.length_nil]; omega)) ?_
                        refine WL.q (.int .i64 ((((([] ++ fs) ++ ([(FactD.mk nx (((l.getD i actE.dflt)).t) a61 ([] ++ (((l.getD i actE.dflt)).vals)) k61)])).getD fs.length factE.dflt)).id)) (by kernel_rfl) rfl (by kernel_rfl) (q_load_e (i := fs.length) (k := 0) (E := factE) rfl (by kernel_rfl) (by kernel_rfl) (o65.reads.mono ((PH.le_refl _).trans G65.own)) (by simp only [List.length_append, List.length_cons, List.length_nil]; omega) (by decide) (by kernel_rfl)) ?_
                        refine WL.know 179 (.int .i64 nx) (x := (.int .i64 ((((([] ++ fs) ++ ([(FactD.mk nx (((l.getD i actE.dflt)).t) a61 ([] ++ (((l.getD i actE.dflt)).vals)) k61)])).getD fs.length factE.dflt)).id))) (by kernel_rfl) (congrArg (Value.int .i64) (by rw [getD_len])) ?_
                        refine WL.q (.bool false) (by kernel_rfl) rfl (by kernel_rfl) (q_bool (x := ((nx : Int) != nx)) (by kernel_rfl) (bne_self_eq_false _)) ?_
                        refine WL.nil ?_
                        refine EX.then_code ?_
                        refine CW.cond_f (by kernel_rfl) (by kernel_rfl) ?_
                        refine CW.skip ?_
                        refine EX.in_block ?_
                        have hcap_ := o65.cap_le
                        obtain ⟨h66, l66, G66, r66⟩ := o65.freeze G65
                        have A67 : MemA h57 p ((([] ++ fs) ++ ([(FactD.mk nx (((l.getD i actE.dflt)).t) a61 ([] ++ (((l.getD i actE.dflt)).vals)) k61)])).map dat) (nx + 1) M M57 := (show ((fs.map dat) ++ [(nx, ((l.getD i actE.dflt)).t, ((l.getD i actE.dflt)).vals)]) = (([] ++ fs) ++ ([(FactD.mk nx (((l.getD i actE.dflt)).t) a61 ([] ++ (((l.getD i actE.dflt)).vals)) k61)])).map dat by simp [dat]) ▸ A57
                        exact EX.then_cut ⟨p, (([] ++ fs) ++ ([(FactD.mk nx (((l.getD i actE.dflt)).t) a61 ([] ++ (((l.getD i actE.dflt)).vals)) k61)])), a65, k65, nx + 1⟩ ⟨(by kernel_rfl), (by kernel_rfl), (by kernel_rfl), (by kernel_rfl), (by kernel_rfl), trivial⟩ ⟨h66, M57, ((((l56.trans l57).trans l62).trans l63).trans l66), G66, (MemA.mono ((l62.trans l63).trans l66) A67), (r66.mono (PH.le_refl _)), (all_up @factG.mono l66 g65), (by first | (dsimp only; omega) | (dsimp only; simp only [List.length_append, List.length_cons, List.length_nil, List.length_take, List.length_drop] at *; omega)), (by first | (dsimp only; omega) | (dsimp only; simp only [List.length_append, List.length_cons, List.length_nil, List.length_take, List.length_drop] at *; omega)), (by first | (dsimp only; omega) | (dsimp only; simp only [List.length_append, List.length_cons, List.length_nil, List.length_take, List.length_drop] at *; omega))⟩
                      ·
                        skip
                        refine DOp.ex rfl (by kernel_rfl) rfl (by kernel_rfl) (q_newB (ob := (.cells #[] 29 (0, 0))) G58 (fun b_ => .slice (some ⟨b_, 0, none⟩) 0 0) (fun u_ => by kernel_rfl)) (fun v_ w68 p_ => by obtain ⟨b68, M68, rfl, G68, B68, L68⟩ := p_; exact ⟨.inr (fun _ => (G68.imm _ _ ((((l18.trans l28).trans l56).trans l57) _ _ hb11))), .inr (fun _ => (G68.imm _ _ ((((l18.trans l28).trans l56).trans l57) _ _ hb11))), trivial⟩) ?_
                        rintro _ w68 ⟨b68, M68, rfl, G68, B68, L68⟩
                        have o68 : Own 29 valE M58 M68 (some ⟨b68, 0, none⟩) 0 ([] : List _) := Own.lit2 B68 (by kernel_rfl) (by kernel_rfl) (by decide)
                        refine DW.only 2 (by kernel_rfl) ?_
                        obtain ⟨N69, s70, s71⟩ : ∃ N_, Own 29 valE M57 N_ (some ⟨b68, 0, none⟩) 0 ([] : List _) ∧ Own 43 factE N_ M68 (some ⟨b58, 0, none⟩) 0 ([] : List _) := Ly.swap (Ly.own (E := factE) 43 (some ⟨b58, 0, none⟩) 0 ([] : List _)) (Ly.own (E := valE) 29 (some ⟨b68, 0, none⟩) 0 ([] : List _)) o58 o68
                        refine DOp.ex rfl (by kernel_rfl) rfl (by kernel_rfl) (q_app (e := 43) (bytes := 48) (cap := 0) (c2 := co) (M0 := N69) (xs := ([] : List _)) (ys := fs) G68 s71 (f_row6.mono (((((l11.trans l18).trans l28).trans l56).trans l57).trans G68.imm)) rfl (by kernel_rfl) (by kernel_rfl) (by kernel_rfl) (by first | (simp [maxLen]; omega) | (simp only [maxLen, List.length_append, List.length_cons, List.length_nil, List.length_take, List.length_drop]; omega) | (simp only [maxLen]; omega)) (by first | omega | (simp; omega) | (simp only [List.length_append, List.length_cons, List.length_nil, List.length_take, List.length_drop]; omega))) (fun v_ w72 p_ => by obtain ⟨a72, k72, M72, rfl, G72, o72, z72⟩ := p_; exact ⟨.inr (fun _ => (G72.imm _ _ ((((l18.trans l28).trans l56).trans l57) _ _ hb11))), .inr (fun _ => (G72.imm _ _ ((((l18.trans l28).trans l56).trans l57) _ _ hb11))), trivial⟩) ?_
                        rintro _ w72 ⟨a72, k72, M72, rfl, G72, o72, z72⟩
                        have g72 : ∀ e_ ∈ ([] ++ fs), factG h57 e_ := all_app g58 (all_up @factG.mono ((((l11.trans l18).trans l28).trans l56).trans l57) fg_row6)
                        refine DW.only 9 (by kernel_rfl) ?_
                        obtain ⟨N73, s74, s75⟩ : ∃ N_, Own 43 factE M57 N_ a72 k72 ([] ++ fs) ∧ Own 29 valE N_ M72 (some ⟨b68, 0, none⟩) 0 ([] : List _) := Ly.swap (Ly.own (E := valE) 29 (some ⟨b68, 0, none⟩) 0 ([] : List _)) (Ly.own (E := factE) 43 a72 k72 ([] ++ fs)) s70 o72
                        refine DOp.ex rfl (by kernel_rfl) rfl (by kernel_rfl) (q_app (e := 29) (bytes := 32) (cap := 0) (c2 := (((l.getD i actE.dflt)).c)) (M0 := N73) (xs := ([] : List _)) (ys := (((l.getD i actE.dflt)).vals)) G72 s75 (((Gl (l.getD i actE.dflt) (getD_mem (d := actE.dflt) (show i < l.length from (by omega))))).1.mono ((((((((l1.trans l5).trans l6).trans l11).trans l18).trans l28).trans l56).trans l57).trans G72.imm)) rfl (by kernel_rfl) (by kernel_rfl) (by kernel_rfl) (by first | (simp [maxLen]; omega) | (simp only [maxLen, List.length_append, List.length_cons, List.length_nil, List.length_take, List.length_drop]; omega) | (simp only [maxLen]; omega)) (by first | omega | (simp; omega) | (simp only [List.length_append, List.length_cons, List.length_nil, List.length_take, List.length_drop]; omega))) (fun v_ w76 p_ => by obtain ⟨a76, k76, M76, rfl, G76, o76, z76⟩ := p_; exact ⟨.inr (fun _ => (G76.imm _ _ ((((l18.trans l28).trans l56).trans l57) _ _ hb11))), .inl (by kernel_rfl), trivial⟩) ?_
                        rintro _ w76 ⟨a76, k76, M76, rfl, G76, o76, z76⟩
                        refine DW.take (T := fun _ => True) 10 (.agg #[(.int .i64 nx), (.string (((l.getD i actE.dflt)).t)), (.slice a76 (([] ++ (((l.getD i actE.dflt)).vals)).length) k76)]) rfl (by kernel_rfl) rfl (by kernel_rfl) (.inl fun _ => trivial) (by kernel_rfl) (Deaf.thens (Deaf.thens (Deaf.block (Deaf.thens (Deaf.block (Deaf.thens (Deaf.thens (Deaf.block (Deaf.thens (Deaf.body RetM.not_panicked)))))))))) (fun w_ _ => (by kernel_rfl)) trivial ?_
                        refine DW.only 11 (by kernel_rfl) ?_
                        obtain ⟨h77, l77, G77, r77⟩ := o76.freeze G76
                        refine DOp.ex rfl (by kernel_rfl) rfl (by kernel_rfl) (q_newF (ob := (.cells #[(.int .i64 nx), (.string (((l.getD i actE.dflt)).t)), (.slice a76 (([] ++ (((l.getD i actE.dflt)).vals)).length) k76)] 43 (0, 0))) G77 (fun b_ => .slice (some ⟨b_, 0, none⟩) 1 1) (fun u_ => by kernel_rfl)) (fun v_ w78 p_ => by obtain ⟨b78, h78, rfl, l78, G78, hb78, L78⟩ := p_; exact ⟨.inr (fun _ => (G78.imm _ _ ((((((l18.trans l28).trans l56).trans l57).trans l77).trans l78) _ _ hb11))), .inr (fun _ => (G78.imm _ _ ((((((l18.trans l28).trans l56).trans l57).trans l77).trans l78) _ _ hb11))), trivial⟩) ?_
                        rintro _ w78 ⟨b78, h78, rfl, l78, G78, hb78, L78⟩
                        have r79 : RS h78 factE (some ⟨b78, 0, none⟩) [(FactD.mk nx (((l.getD i actE.dflt)).t) a76 ([] ++ (((l.getD i actE.dflt)).vals)) k76)] := RS.blk hb78 (by kernel_rfl)
                        have g79 : ∀ e_ ∈ [(FactD.mk nx (((l.getD i actE.dflt)).t) a76 ([] ++ (((l.getD i actE.dflt)).vals)) k76)], factG h78 e_ := (all_one (show factG h78 (FactD.mk nx (((l.getD i actE.dflt)).t) a76 ([] ++ (((l.getD i actE.dflt)).vals)) k76) from (r77.mono l78)))
                        refine DW.only 12 (by kernel_rfl) ?_
                        refine DOp.ex rfl (by kernel_rfl) rfl (by kernel_rfl) (q_app (e := 43) (bytes := 48) (cap := k72) (c2 := 1) (M0 := M57) (xs := ([] ++ fs)) (ys := ([(FactD.mk nx (((l.getD i actE.dflt)).t) a76 ([] ++ (((l.getD i actE.dflt)).vals)) k76)])) G78 s74 (r79.mono ((PH.le_refl _).trans G78.imm)) rfl (by kernel_rfl) (by kernel_rfl) (by kernel_rfl) (by first | (simp [maxLen]; omega) | (simp only [maxLen, List.length_append, List.length_cons, List.length_nil, List.length_take, List.length_drop]; omega) | (simp only [maxLen]; omega)) (by first | omega | (simp; omega) | (simp only [List.length_append, List.length_cons, List.length_nil, List.length_take, List.length_drop]; omega))) (fun v_ w80 p_ => by obtain ⟨a80, k80, M80, rfl, G80, o80, z80⟩ := p_; exact ⟨.inr (fun _ => (G80.imm _ _ ((((((l18.trans l28).trans l56).trans l57).trans l77).trans l78) _ _ hb11))), .inr (fun _ => (G80.imm _ _ ((((((l18.trans l28).trans l56).trans l57).trans l77).trans l78) _ _ hb11))), trivial⟩) ?_
                        rintro _ w80 ⟨a80, k80, M80, rfl, G80, o80, z80⟩
                        have g80 : ∀ e_ ∈ (([] ++ fs) ++ ([(FactD.mk nx (((l.getD i actE.dflt)).t) a76 ([] ++ (((l.getD i actE.dflt)).vals)) k76)])), factG h78 e_ := all_app (all_up @factG.mono (l77.trans l78) g72) g79
                        refine DW.take (T := fun _ => True) 13 (.slice a80 ((([] ++ fs) ++ ([(FactD.mk nx (((l.getD i actE.dflt)).t) a76 ([] ++ (((l.getD i actE.dflt)).vals)) k76)])).length) k80) rfl (by kernel_rfl) rfl (by kernel_rfl) (.inl fun _ => trivial) (by kernel_rfl) (Deaf.thens (Deaf.thens (Deaf.block (Deaf.thens (Deaf.block (Deaf.thens (Deaf.thens (Deaf.block (Deaf.thens (Deaf.body RetM.not_panicked)))))))))) (fun w_ _ => (by kernel_rfl)) trivial ?_
                        refine DW.done (by kernel_rfl) ?_
                        refine EX.then_code ?_
                        refine CW.seq ?_
                        refine CW.region ?_
                        refine WL.q (.slice a80 ((([] ++ fs) ++ ([(FactD.mk nx (((l.getD i actE.dflt)).t) a76 ([] ++ (((l.getD i actE.dflt)).vals)) k76)])).length) k80) (by kernel_rfl) rfl (by kernel_rfl) (by kernel_rfl) ?_
                        refine WL.q (.int .i64 ((([] ++ fs) ++ ([(FactD.mk nx (((l.getD i actE.dflt)).t) a76 ([] ++ (((l.getD i actE.dflt)).vals)) k76)])).length : Int)) (by kernel_rfl) rfl (by kernel_rfl) (by kernel_rfl) ?_
                        refine WL.know 170 (.int .i64 ((fs.length + 1 : Nat) : Int)) (x := (.int .i64 ((([] ++ fs) ++ ([(FactD.mk nx (((l.getD i actE.dflt)).t) a76 ([] ++ (((l.getD i actE.dflt)).vals)) k76)])).length : Int))) (by kernel_rfl) (congrArg (Value.int .i64) (by simp)) ?_
                        refine WL.q (.int .i64 (((fs.length + 1 : Nat) : Int) - 1)) (by kernel_rfl) rfl (by kernel_rfl) (q_int (x := IntKind.i64.wrap (((fs.length + 1 : Nat) : Int) - 1)) (by kernel_rfl) (wrap_to (by omega) (by omega) (by omega))) ?_
                        refine WL.know 171 (.int .i64 (fs.length : Int)) (x := (.int .i64 (((fs.length + 1 : Nat) : Int) - 1))) (by kernel_rfl) (congrArg (Value.int .i64) (by omega)) ?_
                        refine WL.q (.int .i64 (fs.length : Int)) (by kernel_rfl) rfl (by kernel_rfl) (by kernel_rfl) ?_
                        refine WL.nil ?_
                        refine EX.then_code ?_
                        refine CW.region ?_
                        refine WL.q (.int .i64 nx) (by kernel_rfl) rfl (by kernel_rfl) (by kernel_rfl) ?_
                        refine WL.q (.int .i64 (nx + 1)) (by kernel_rfl) rfl (by kernel_rfl) (q_int (x := IntKind.i64.wrap (nx + 1)) (by kernel_rfl) (wrap_to (by omega) (by omega) (by omega))) ?_
                        refine WL.q (.int .i64 (nx + 1)) (by kernel_rfl) rfl (by kernel_rfl) (by kernel_rfl) ?_
                        refine WL.nil ?_
                        refine EX.then_code ?_
                        refine CW.seq ?_
                        refine CW.region ?_
                        refine WL.q (.int .i64 nx) (by kernel_rfl) rfl (by kernel_rfl) (by kernel_rfl) ?_
                        refine WL.q (.slice a80 ((([] ++ fs) ++ ([(FactD.mk nx (((l.getD i actE.dflt)).t) a76 ([] ++ (((l.getD i actE.dflt)).vals)) k76)])).length) k80) (by kernel_rfl) rfl (by kernel_rfl) (by kernel_rfl) ?_
                        refine WL.q (.int .i64 (fs.length : Int)) (by kernel_rfl) rfl (by kernel_rfl) (by kernel_rfl) ?_
                        refine WL.q (eptr a80 (fs.length * factE.sz)) (by kernel_rfl) rfl (by kernel_rfl) (q_indexAddr (i := fs.length) (E := factE) (xs := (([] ++ fs) ++ ([(FactD.mk nx (((l.getD i actE.dflt)).t) a76 ([] ++ (((l.getD i actE.dflt)).vals)) k76)]))) (e := 43) (c := k80) (k := .i64) (m := ((([] ++ fs) ++ ([(FactD.mk nx (((l.getD i actE.dflt)).t) a76 ([] ++ (((l.getD i actE.dflt)).vals)) k76)])).length)) rfl rfl (by kernel_rfl) (by kernel_rfl) (by kernel_rfl) (o80.reads.mono ((PH.le_refl _).trans G80.own)) (by simp only [List.length_append, List.length_cons, List.length_nil]; omega)) ?_
                        refine WL.q (eptr a80 (fs.length * factE.sz + 0)) (by kernel_rfl) rfl (by kernel_rfl) (q_fieldAddr_e (i := fs.length) (k := fs.length * factE.sz) (off := 0) rfl (by kernel_rfl) (by kernel_rfl) (o80.reads.mono ((PH.le_refl _).trans G80.own)) (by simp only [List.length_append, List.length_cons, List.length_nil]; omega)) ?_
                        refine WL.q (.int .i64 ((((([] ++ fs) ++ ([(FactD.mk nx (((l.getD i actE.dflt)).t) a76 ([] ++ (((l.getD i actE.dflt)).vals)) k76)])).getD fs.length factE.dflt)).id)) (by kernel_rfl) rfl (by kernel_rfl) (q_load_e (i := fs.length) (k := 0) (E := factE) rfl (by kernel_rfl) (by kernel_rfl) (o80.reads.mono ((PH.le_refl _).trans G80.own)) (by simp only [List.length_append, List.length_cons, List.length_nil]; omega) (by decide) (by kernel_rfl)) ?_
                        refine WL.know 179 (.int .i64 nx) (x := (.int .i64 ((((([] ++ fs) ++ ([(FactD.mk nx (((l.getD i actE.dflt)).t) a76 ([] ++ (((l.getD i actE.dflt)).vals)) k76)])).getD fs.length factE.dflt)).id))) (by kernel_rfl) (congrArg (Value.int .i64) (by rw [getD_len])) ?_
                        refine WL.q (.bool false) (by kernel_rfl) rfl (by kernel_rfl) (q_bool (x := ((nx : Int) != nx)) (by kernel_rfl) (bne_self_eq_false _)) ?_
                        refine WL.nil ?_
                        refine EX.then_code ?_
                        refine CW.cond_f (by kernel_rfl) (by kernel_rfl) ?_
                        refine CW.skip ?_
                        refine EX.in_block ?_
                        have hcap_ := o80.cap_le
                        obtain ⟨h81, l81, G81, r81⟩ := o80.freeze G80
                        have A82 : MemA h57 p ((([] ++ fs) ++ ([(FactD.mk nx (((l.getD i actE.dflt)).t) a76 ([] ++ (((l.getD i actE.dflt)).vals)) k76)])).map dat) (nx + 1) M M57 := (show ((fs.map dat) ++ [(nx, ((l.getD i actE.dflt)).t, ((l.getD i actE.dflt)).vals)]) = (([] ++ fs) ++ ([(FactD.mk nx (((l.getD i actE.dflt)).t) a76 ([] ++ (((l.getD i actE.dflt)).vals)) k76)])).map dat by simp [dat]) ▸ A57
                        exact EX.then_cut ⟨p, (([] ++ fs) ++ ([(FactD.mk nx (((l.getD i actE.dflt)).t) a76 ([] ++ (((l.getD i actE.dflt)).vals)) k76)])), a80, k80, nx + 1⟩ ⟨(by kernel_rfl), (by kernel_rfl), (by kernel_rfl), (by kernel_rfl), (by kernel_rfl), trivial⟩ ⟨h81, M57, ((((l56.trans l57).trans l77).trans l78).trans l81), G81, (MemA.mono ((l77.trans l78).trans l81) A82), (r81.mono (PH.le_refl _)), (all_up @factG.mono l81 g80), (by first | (dsimp only; omega) | (dsimp only; simp only [List.length_append, List.length_cons, List.length_nil, List.length_take, List.length_drop] at *; omega)), (by first | (dsimp only; omega) | (dsimp only; simp only [List.length_append, List.length_cons, List.length_nil, List.length_take, List.length_drop] at *; omega)), (by first | (dsimp only; omega) | (dsimp only; simp only [List.length_append, List.length_cons, List.length_nil, List.length_take, List.length_drop] at *; omega))⟩
                    ·
                      skip
                      refine DOp.ex rfl (by kernel_rfl) rfl (by kernel_rfl) (q_newB (ob := (.cells #[] 29 (0, 0))) (G57.drew) (fun b_ => .slice (some ⟨b_, 0, none⟩) 0 0) (fun u_ => by kernel_rfl)) (fun v_ w83 p_ => by obtain ⟨b83, M83, rfl, G83, B83, L83⟩ := p_; exact ⟨.inr (fun _ => (G83.imm _ _ ((((l18.trans l28).trans l56).trans l57) _ _ hb11))), .inr (fun _ => (G83.imm _ _ ((((l18.trans l28).trans l56).trans l57) _ _ hb11))), trivial⟩) ?_
                      rintro _ w83 ⟨b83, M83, rfl, G83, B83, L83⟩
                      have o83 : Own 29 valE M57 M83 (some ⟨b83, 0, none⟩) 0 ([] : List _) := Own.lit2 B83 (by kernel_rfl) (by kernel_rfl) (by decide)
                      refine DW.only 0 (by kernel_rfl) ?_
                      refine DOp.ex rfl (by kernel_rfl) rfl (by kernel_rfl) (q_newB (ob := (.cells #[] 43 (0, 0))) G83 (fun b_ => .slice (some ⟨b_, 0, none⟩) 0 0) (fun u_ => by kernel_rfl)) (fun v_ w84 p_ => by obtain ⟨b84, M84, rfl, G84, B84, L84⟩ := p_; exact ⟨.inr (fun _ => (G84.imm _ _ ((((l18.trans l28).trans l56).trans l57) _ _ hb11))), .inr (fun _ => (G84.imm _ _ ((((l18.trans l28).trans l56).trans l57) _ _ hb11))), trivial⟩) ?_
                      rintro _ w84 ⟨b84, M84, rfl, G84, B84, L84⟩
                      have o84 : Own 43 factE M83 M84 (some ⟨b84, 0, none⟩) 0 ([] : List _) := Own.lit2 B84 (by kernel_rfl) (by kernel_rfl) (by decide)
                      have g84 : ∀ e_ ∈ ([] : List _), factG h57 e_ := all_nil
                      refine DW.only 2 (by kernel_rfl) ?_
                      refine DOp.ex rfl (by kernel_rfl) rfl (by kernel_rfl) (q_app (e := 43) (bytes := 48) (cap := 0) (c2 := co) (M0 := M83) (xs := ([] : List _)) (ys := fs) G84 o84 (f_row6.mono (((((l11.trans l18).trans l28).trans l56).trans l57).trans G84.imm)) rfl (by kernel_rfl) (by kernel_rfl) (by kernel_rfl) (by first | (simp [maxLen]; omega) | (simp only [maxLen, List.length_append, List.length_cons, List.length_nil, List.length_take, List.length_drop]; omega) | (simp only [maxLen]; omega)) (by first | omega | (simp; omega) | (simp only [List.length_append, List.length_cons, List.length_nil, List.length_take, List.length_drop]; omega))) (fun v_ w85 p_ => by obtain ⟨a85, k85, M85, rfl, G85, o85, z85⟩ := p_; exact ⟨.inr (fun _ => (G85.imm _ _ ((((l18.trans l28).trans l56).trans l57) _ _ hb11))), .inr (fun _ => (G85.imm _ _ ((((l18.trans l28).trans l56).trans l57) _ _ hb11))), trivial⟩) ?_
                      rintro _ w85 ⟨a85, k85, M85, rfl, G85, o85, z85⟩
                      have g85 : ∀ e_ ∈ ([] ++ fs), factG h57 e_ := all_app g84 (all_up @factG.mono ((((l11.trans l18).trans l28).trans l56).trans l57) fg_row6)
                      refine DW.only 9 (by kernel_rfl) ?_
                      obtain ⟨N86, s87, s88⟩ : ∃ N_, Own 43 factE M57 N_ a85 k85 ([] ++ fs) ∧ Own 29 valE N_ M85 (some ⟨b83, 0, none⟩) 0 ([] : List _) := Ly.swap (Ly.own (E := valE) 29 (some ⟨b83, 0, none⟩) 0 ([] : List _)) (Ly.own (E := factE) 43 a85 k85 ([] ++ fs)) o83 o85
                      refine DOp.ex rfl (by kernel_rfl) rfl (by kernel_rfl) (q_app (e := 29) (bytes := 32) (cap := 0) (c2 := (((l.getD i actE.dflt)).c)) (M0 := N86) (xs := ([] : List _)) (ys := (((l.getD i actE.dflt)).vals)) G85 s88 (((Gl (l.getD i actE.dflt) (getD_mem (d := actE.dflt) (show i < l.length from (by omega))))).1.mono ((((((((l1.trans l5).trans l6).trans l11).trans l18).trans l28).trans l56).trans l57).trans G85.imm)) rfl (by kernel_rfl) (by kernel_rfl) (by kernel_rfl) (by first | (simp [maxLen]; omega) | (simp only [maxLen, List.length_append, List.length_cons, List.length_nil, List.length_take, List.length_drop]; omega) | (simp only [maxLen]; omega)) (by first | omega | (simp; omega) | (simp only [List.length_append, List.length_cons, List.length_nil, List.length_take, List.length_drop]; omega))) (fun v_ w89 p_ => by obtain ⟨a89, k89, M89, rfl, G89, o89, z89⟩ := p_; exact ⟨.inr (fun _ => (G89.imm _ _ ((((l18.trans l28).trans l56).trans l57) _ _ hb11))), .inl (by kernel_rfl), trivial⟩) ?_
                      rintro _ w89 ⟨a89, k89, M89, rfl, G89, o89, z89⟩
                      refine DW.take (T := fun _ => True) 10 (.agg #[(.int .i64 nx), (.string (((l.getD i actE.dflt)).t)), (.slice a89 (([] ++ (((l.getD i actE.dflt)).vals)).length) k89)]) rfl (by kernel_rfl) rfl (by kernel_rfl) (.inl fun _ => trivial) (by kernel_rfl) (Deaf.thens (Deaf.thens (Deaf.block (Deaf.thens (Deaf.block (Deaf.thens (Deaf.thens (Deaf.block (Deaf.thens (Deaf.body RetM.not_panicked)))))))))) (fun w_ _ => (by kernel_rfl)) trivial ?_
                      refine DW.only 11 (by kernel_rfl) ?_
                      obtain ⟨h90, l90, G90, r90⟩ := o89.freeze G89
                      refine DOp.ex rfl (by kernel_rfl) rfl (by kernel_rfl) (q_newF (ob := (.cells #[(.int .i64 nx), (.string (((l.getD i actE.dflt)).t)), (.slice a89 (([] ++ (((l.getD i actE.dflt)).vals)).length) k89)] 43 (0, 0))) G90 (fun b_ => .slice (some ⟨b_, 0, none⟩) 1 1) (fun u_ => by kernel_rfl)) (fun v_ w91 p_ => by obtain ⟨b91, h91, rfl, l91, G91, hb91, L91⟩ := p_; exact ⟨.inr (fun _ => (G91.imm _ _ ((((((l18.trans l28).trans l56).trans l57).trans l90).trans l91) _ _ hb11))), .inr (fun _ => (G91.imm _ _ ((((((l18.trans l28).trans l56).trans l57).trans l90).trans l91) _ _ hb11))), trivial⟩) ?_
                      rintro _ w91 ⟨b91, h91, rfl, l91, G91, hb91, L91⟩
                      have r92 : RS h91 factE (some ⟨b91, 0, none⟩) [(FactD.mk nx (((l.getD i actE.dflt)).t) a89 ([] ++ (((l.getD i actE.dflt)).vals)) k89)] := RS.blk hb91 (by kernel_rfl)
                      have g92 : ∀ e_ ∈ [(FactD.mk nx (((l.getD i actE.dflt)).t) a89 ([] ++ (((l.getD i actE.dflt)).vals)) k89)], factG h91 e_ := (all_one (show factG h91 (FactD.mk nx (((l.getD i actE.dflt)).t) a89 ([] ++ (((l.getD i actE.dflt)).vals)) k89) from (r90.mono l91)))
                      refine DW.only 12 (by kernel_rfl) ?_
                      refine DOp.ex rfl (by kernel_rfl) rfl (by kernel_rfl) (q_app (e := 43) (bytes := 48) (cap := k85) (c2 := 1) (M0 := M57) (xs := ([] ++ fs)) (ys := ([(FactD.mk nx (((l.getD i actE.dflt)).t) a89 ([] ++ (((l.getD i actE.dflt)).vals)) k89)])) G91 s87 (r92.mono ((PH.le_refl _).trans G91.imm)) rfl (by kernel_rfl) (by kernel_rfl) (by kernel_rfl) (by first | (simp [maxLen]; omega) | (simp only [maxLen, List.length_append, List.length_cons, List.length_nil, List.length_take, List.length_drop]; omega) | (simp only [maxLen]; omega)) (by first | omega | (simp; omega) | (simp only [List.length_append, List.length_cons, List.length_nil, List.length_take, List.length_drop]; omega))) (fun v_ w93 p_ => by obtain ⟨a93, k93, M93, rfl, G93, o93, z93⟩ := p_; exact ⟨.inr (fun _ => (G93.imm _ _ ((((((l18.trans l28).trans l56).trans l57).trans l90).trans l91) _ _ hb11))), .inr (fun _ => (G93.imm _ _ ((((((l18.trans l28).trans l56).trans l57).trans l90).trans l91) _ _ hb11))), trivial⟩) ?_
                      rintro _ w93 ⟨a93, k93, M93, rfl, G93, o93, z93⟩
                      have g93 : ∀ e_ ∈ (([] ++ fs) ++ ([(FactD.mk nx (((l.getD i actE.dflt)).t) a89 ([] ++ (((l.getD i actE.dflt)).vals)) k89)])), factG h91 e_ := all_app (all_up @factG.mono (l90.trans l91) g85) g92
                      refine DW.take (T := fun _ => True) 13 (.slice a93 ((([] ++ fs) ++ ([(FactD.mk nx (((l.getD i actE.dflt)).t) a89 ([] ++ (((l.getD i actE.dflt)).vals)) k89)])).length) k93) rfl (by kernel_rfl) rfl (by kernel_rfl) (.inl fun _ => trivial) (by kernel_rfl) (Deaf.thens (Deaf.thens (Deaf.block (Deaf.thens (Deaf.block (Deaf.thens (Deaf.thens (Deaf.block (Deaf.thens (Deaf.body RetM.not_panicked)))))))))) (fun w_ _ => (by kernel_rfl)) trivial ?_
                      refine DW.done (by kernel_rfl) ?_
                      refine EX.then_code ?_
                      refine CW.seq ?_
                      refine CW.region ?_
                      refine WL.q (.slice a93 ((([] ++ fs) ++ ([(FactD.mk nx (((l.getD i actE.dflt)).t) a89 ([] ++ (((l.getD i actE.dflt)).vals)) k89)])).length) k93) (by kernel_rfl) rfl (by kernel_rfl) (by kernel_rfl) ?_
                      refine WL.q (.int .i64 ((([] ++ fs) ++ ([(FactD.mk nx (((l.getD i actE.dflt)).t) a89 ([] ++ (((l.getD i actE.dflt)).vals)) k89)])).length : Int)) (by kernel_rfl) rfl (by kernel_rfl) (by kernel_rfl) ?_
                      refine WL.know 170 (.int .i64 ((fs.length + 1 : Nat) : Int)) (x := (.int .i64 ((([] ++ fs) ++ ([(FactD.mk nx (((l.getD i actE.dflt)).t) a89 ([] ++ (((l.getD i actE.dflt)).vals)) k89)])).length : Int))) (by kernel_rfl) (congrArg (Value.int .i64) (by simp)) ?_
                      refine WL.q (.int .i64 (((fs.length + 1 : Nat) : Int) - 1)) (by kernel_rfl) rfl (by kernel_rfl) (q_int (x := IntKind.i64.wrap (((fs.length + 1 : Nat) : Int) - 1)) (by kernel_rfl) (wrap_to (by omega) (by omega) (by omega))) ?_
                      refine WL.know 171 (.int .i64 (fs.length : Int)) (x := (.int .i64 (((fs.length + 1 : Nat) : Int) - 1))) (by kernel_rfl) (congrArg (Value.int .i64) (by omega)) ?_
                      refine WL.q (.int .i64 (fs.length : Int)) (by kernel_rfl) rfl (by kernel_rfl) (by kernel_rfl) ?_
                      refine WL.nil ?_
                      refine EX.then_code ?_
                      refine CW.region ?_
                      refine WL.q (.int .i64 nx) (by kernel_rfl) rfl (by kernel_rfl) (by kernel_rfl) ?_
                      refine WL.q (.int .i64 (nx + 1)) (by kernel_rfl) rfl (by kernel_rfl) (q_int (x := IntKind.i64.wrap (nx + 1)) (by kernel_rfl) (wrap_to (by omega) (by omega) (by omega))) ?_
                      refine WL.q (.int .i64 (nx + 1)) (by kernel_rfl) rfl (by kernel_rfl) (by kernel_rfl) ?_
                      refine WL.nil ?_
                      refine EX.then_code ?_
                      refine CW.seq ?_
                      refine CW.region ?_
                      refine WL.q (.int .i64 nx) (by kernel_rfl) rfl (by kernel_rfl) (by kernel_rfl) ?_
                      refine WL.q (.slice a93 ((([] ++ fs) ++ ([(FactD.mk nx (((l.getD i actE.dflt)).t) a89 ([] ++ (((l.getD i actE.dflt)).vals)) k89)])).length) k93) (by kernel_rfl) rfl (by kernel_rfl) (by kernel_rfl) ?_
                      refine WL.q (.int .i64 (fs.length : Int)) (by kernel_rfl) rfl (by kernel_rfl) (by kernel_rfl) ?_
                      refine WL.q (eptr a93 (fs.length * factE.sz)) (by kernel_rfl) rfl (by kernel_rfl) (q_indexAddr (i := fs.length) (E := factE) (xs := (([] ++ fs) ++ ([(FactD.mk nx (((l.getD i actE.dflt)).t) a89 ([] ++ (((l.getD i actE.dflt)).vals)) k89)]))) (e := 43) (c := k93) (k := .i64) (m := ((([] ++ fs) ++ ([(FactD.mk nx (((l.getD i actE.dflt)).t) a89 ([] ++ (((l.getD i actE.dflt)).vals)) k89)])).length)) rfl rfl (by kernel_rfl) (by kernel_rfl) (by kernel_rfl) (o93.reads.mono ((PH.le_refl _).trans G93.own)) (by simp only [List.length_append, List.length_cons, List.length_nil]; omega)) ?_
                      refine WL.q (eptr a93 (fs.length * factE.sz + 0)) (by kernel_rfl) rfl (by kernel_rfl) (q_fieldAddr_e (i := fs.length) (k := fs.length * factE.sz) (off := 0) rfl (by kernel_rfl) (by kernel_rfl) (o93.reads.mono ((PH.le_refl _).trans G93.own)) (by simp only [List.length_append, List.length_cons, List.length_nil]; omega)) ?_
                      refine WL.q (.int .i64 ((((([] ++ fs) ++ ([(FactD.mk nx (((l.getD i actE.dflt)).t) a89 ([] ++ (((l.getD i actE.dflt)).vals)) k89)])).getD fs.length factE.dflt)).id)) (by kernel_rfl) rfl (by kernel_rfl) (q_load_e (i := fs.length) (k := 0) (E := factE) rfl (by kernel_rfl) (by kernel_rfl) (o93.reads.mono ((PH.le_refl _).trans G93.own)) (by simp only [List.length_append, List.length_cons, List.length_nil]; omega) (by decide) (by kernel_rfl)) ?_
                      refine WL.know 179 (.int .i64 nx) (x := (.int .i64 ((((([] ++ fs) ++ ([(FactD.mk nx (((l.getD i actE.dflt)).t) a89 ([] ++ (((l.getD i actE.dflt)).vals)) k89)])).getD fs.length factE.dflt)).id))) (by kernel_rfl) (congrArg (Value.int .i64) (by rw [getD_len])) ?_
                      refine WL.q (.bool false) (by kernel_rfl) rfl (by kernel_rfl) (q_bool (x := ((nx : Int) != nx)) (by kernel_rfl) (bne_self_eq_false _)) ?_
                      refine WL.nil ?_
                      refine EX.then_code ?_
                      refine CW.cond_f (by kernel_rfl) (by kernel_rfl) ?_
                      refine CW.skip ?_
                      refine EX.in_block ?_
                      have hcap_ := o93.cap_le
                      obtain ⟨h94, l94, G94, r94⟩ := o93.freeze G93
                      have A95 : MemA h57 p ((([] ++ fs) ++ ([(FactD.mk nx (((l.getD i actE.dflt)).t) a89 ([] ++ (((l.getD i actE.dflt)).vals)) k89)])).map dat) (nx + 1) M M57 := (show ((fs.map dat) ++ [(nx, ((l.getD i actE.dflt)).t, ((l.getD i actE.dflt)).vals)]) = (([] ++ fs) ++ ([(FactD.mk nx (((l.getD i actE.dflt)).t) a89 ([] ++ (((l.getD i actE.dflt)).vals)) k89)])).map dat by simp [dat]) ▸ A57
                      exact EX.then_cut ⟨p, (([] ++ fs) ++ ([(FactD.mk nx (((l.getD i actE.dflt)).t) a89 ([] ++ (((l.getD i actE.dflt)).vals)) k89)])), a93, k93, nx + 1⟩ ⟨(by kernel_rfl), (by kernel_rfl), (by kernel_rfl), (by kernel_rfl), (by kernel_rfl), trivial⟩ ⟨h94, M57, ((((l56.trans l57).trans l90).trans l91).trans l94), G94, (MemA.mono ((l90.trans l91).trans l94) A95), (r94.mono (PH.le_refl _)), (all_up @factG.mono l94 g93), (by first | (dsimp only; omega) | (dsimp only; simp only [List.length_append, List.length_cons, List.length_nil, List.length_take, List.length_drop] at *; omega)), (by first | (dsimp only; omega) | (dsimp only; simp only [List.length_append, List.length_cons, List.length_nil, List.length_take, List.length_drop] at *; omega)), (by first | (dsimp only; omega) | (dsimp only; simp only [List.length_append, List.length_cons, List.length_nil, List.length_take, List.length_drop] at *; omega))⟩
                  ·
                    skip
                    refine WL.know 9 (.int .i64 (j : Int)) (x := .int .i64 (atK fs (qF (l.getD i actE.dflt).op (l.getD i actE.dflt).id (l.getD i actE.dflt).t (l.getD i actE.dflt).vals) k)) (by kernel_rfl) (congrArg (Value.int .i64) (by rw [show k = fs.length by omega]; exact hat)) ?_
                    have hop := eq_of_beq c54
                    rw [hop] at hyes
                    have hl := look_yes o_mem6.ok.keys hj hyes
                    refine WL.call (by kernel_rfl) rfl (by kernel_rfl) (by kernel_rfl) (findA G28 (MemA.mono ((l11.trans l18).trans l28) o_mem6) (PH.le_refl _) (T.mono (((((l1.trans l5).trans l6).trans l11).trans l18).trans l28)) (a := (((l.getD i actE.dflt)).a)) (xs := (((l.getD i actE.dflt)).vals)) (c := (((l.getD i actE.dflt)).c)) (((Gl (l.getD i actE.dflt) (getD_mem (d := actE.dflt) (show i < l.length from (by omega))))).1.mono (((((l1.trans l5).trans l6).trans l11).trans l18).trans l28)) hok) (Ret.elim ?_)
                    rintro w96 h96 _ l96 G96 rfl
                    refine WL.know 121 (.tuple #[(.int .i64 ((fs.getD j factE.dflt).id)), (.bool true)]) (x := (.tuple #[(.int .i64 ((lookA (fs.map dat) (((l.getD i actE.dflt)).t) (((l.getD i actE.dflt)).vals)).getD 0)), (.bool ((lookA (fs.map dat) (((l.getD i actE.dflt)).t) (((l.getD i actE.dflt)).vals)).isSome))])) (by kernel_rfl) (by rw [hl]; rfl) ?_
                    refine WL.q (.tuple #[(.int .i64 ((fs.getD j factE.dflt).id)), (.bool true)]) (by kernel_rfl) rfl (by kernel_rfl) (by kernel_rfl) ?_
                    refine WL.q (.int .i64 ((fs.getD j factE.dflt).id)) (by kernel_rfl) rfl (by kernel_rfl) (by kernel_rfl) ?_
                    refine WL.q (.bool true) (by kernel_rfl) rfl (by kernel_rfl) (by kernel_rfl) ?_
                    refine WL.q (.int .i64 ((fs.getD j factE.dflt).id)) (by kernel_rfl) rfl (by kernel_rfl) (by kernel_rfl) ?_
                    refine WL.q (.bool true) (by kernel_rfl) rfl (by kernel_rfl) (by kernel_rfl) ?_
                    refine WL.nil ?_
                    refine EX.then_code ?_
                    refine CW.seq ?_
                    refine CW.region ?_
                    refine WL.q (.pointer (some ⟨p, 0, none⟩)) (by kernel_rfl) rfl (by kernel_rfl) (by kernel_rfl) ?_
                    refine WL.q (.pointer (some ⟨b9, 2, none⟩)) (by kernel_rfl) rfl (by kernel_rfl) (by kernel_rfl) ?_
                    refine WL.q (.string (((l.getD i actE.dflt)).t)) (by kernel_rfl) rfl (by kernel_rfl) (q_load (off := 2) rfl (by kernel_rfl) (by kernel_rfl) (G96.imm _ _ (((l18.trans l28).trans l96) _ _ hb11)) (by kernel_rfl)) ?_
                    refine WL.q (.pointer (some ⟨b9, 3, none⟩)) (by kernel_rfl) rfl (by kernel_rfl) (by kernel_rfl) ?_
                    refine WL.q (.slice (((l.getD i actE.dflt)).a) (((l.getD i actE.dflt)).vals.length) (((l.getD i actE.dflt)).c)) (by kernel_rfl) rfl (by kernel_rfl) (q_load (off := 3) rfl (by kernel_rfl) (by kernel_rfl) (G96.imm _ _ (((l18.trans l28).trans l96) _ _ hb11)) (by kernel_rfl)) ?_
                    refine WL.call (by kernel_rfl) rfl (by kernel_rfl) (by kernel_rfl) (assertA_yes G96 (MemA.mono (((l11.trans l18).trans l28).trans l96) o_mem6) (T.mono ((((((l1.trans l5).trans l6).trans l11).trans l18).trans l28).trans l96)) (t := (((l.getD i actE.dflt)).t)) (a := (((l.getD i actE.dflt)).a)) (xs := (((l.getD i actE.dflt)).vals)) (c := (((l.getD i actE.dflt)).c)) (((Gl (l.getD i actE.dflt) (getD_mem (d := actE.dflt) (show i < l.length from (by omega))))).1.mono ((((((l1.trans l5).trans l6).trans l11).trans l18).trans l28).trans l96)) hok (id := (fs.getD j factE.dflt).id) hl) (Ret.elim ?_)
                    rintro w97 h97 _ l97 G97 rfl
                    refine WL.q (.tuple #[(.int .i64 ((fs.getD j factE.dflt).id)), (.bool false), (.int .i64 0)]) (by kernel_rfl) rfl (by kernel_rfl) (by kernel_rfl) ?_
                    refine WL.q (.int .i64 ((fs.getD j factE.dflt).id)) (by kernel_rfl) rfl (by kernel_rfl) (by kernel_rfl) ?_
                    refine WL.q (.bool false) (by kernel_rfl) rfl (by kernel_rfl) (by kernel_rfl) ?_
                    refine WL.q (.int .i64 0) (by kernel_rfl) rfl (by kernel_rfl) (by kernel_rfl) ?_
                    refine WL.q (.int .i64 ((fs.getD j factE.dflt).id)) (by kernel_rfl) rfl (by kernel_rfl) (by kernel_rfl) ?_
                    refine WL.q (.bool false) (by kernel_rfl) rfl (by kernel_rfl) (by kernel_rfl) ?_
                    refine WL.q (.int .i64 0) (by kernel_rfl) rfl (by kernel_rfl) (by kernel_rfl) ?_
                    refine WL.nil ?_
                    refine EX.then_code ?_
                    refine CW.seq ?_
                    refine CW.seq ?_
                    refine CW.region ?_
                    refine WL.q (.int .i64 0) (by kernel_rfl) rfl (by kernel_rfl) (by kernel_rfl) ?_
                    refine WL.q (.bool false) (by kernel_rfl) rfl (by kernel_rfl) (by kernel_rfl) ?_
                    refine WL.q (.bool false) (by kernel_rfl) rfl (by kernel_rfl) (by kernel_rfl) ?_
                    refine WL.q (.bool true) (by kernel_rfl) rfl (by kernel_rfl) (by kernel_rfl) ?_
                    refine WL.q (.int .i64 (j : Int)) (by kernel_rfl) rfl (by kernel_rfl) (by kernel_rfl) ?_
                    refine WL.q (.bool (decide ((j : Int) ≥ 0))) (by kernel_rfl) rfl (by kernel_rfl) (by kernel_rfl) ?_
                    refine WL.know 139 (.bool true) (x := (.bool (decide ((j : Int) ≥ 0)))) (by kernel_rfl) (congrArg Value.bool (decide_eq_true (by omega))) ?_
                    refine WL.q (.bool false) (by kernel_rfl) rfl (by kernel_rfl) (by kernel_rfl) ?_
                    refine WL.q (.bool false) (by kernel_rfl) rfl (by kernel_rfl) (by kernel_rfl) ?_
                    refine WL.q (.bool false) (by kernel_rfl) rfl (by kernel_rfl) (by kernel_rfl) ?_
                    refine WL.q (.bool false) (by kernel_rfl) rfl (by kernel_rfl) (by kernel_rfl) ?_
                    refine WL.q (.bool true) (by kernel_rfl) rfl (by kernel_rfl) (by kernel_rfl) ?_
                    refine WL.q (.bool false) (by kernel_rfl) rfl (by kernel_rfl) (by kernel_rfl) ?_
                    refine WL.q (.bool false) (by kernel_rfl) rfl (by kernel_rfl) (by kernel_rfl) ?_
                    refine WL.q (.bool false) (by kernel_rfl) rfl (by kernel_rfl) (by kernel_rfl) ?_
                    refine WL.q (.bool true) (by kernel_rfl) rfl (by kernel_rfl) (by kernel_rfl) ?_
                    refine WL.q (.bool true) (by kernel_rfl) rfl (by kernel_rfl) (by kernel_rfl) ?_
                    refine WL.q (.int .i64 ((fs.getD j factE.dflt).id)) (by kernel_rfl) rfl (by kernel_rfl) (by kernel_rfl) ?_
                    refine WL.q (.int .i64 ((fs.getD j factE.dflt).id)) (by kernel_rfl) rfl (by kernel_rfl) (by kernel_rfl) ?_
                    refine WL.q (.bool false) (by kernel_rfl) rfl (by kernel_rfl) (q_bool (x := (((fs.getD j factE.dflt).id : Int) != (fs.getD j factE.dflt).id)) (by kernel_rfl) (bne_self_eq_false _)) ?_
                    refine WL.q (.bool false) (by kernel_rfl) rfl (by kernel_rfl) (by kernel_rfl) ?_
                    refine WL.q (.bool false) (by kernel_rfl) rfl (by kernel_rfl) (by kernel_rfl) ?_
                    refine WL.nil ?_
                    refine EX.then_code ?_
                    refine CW.cond_f (by kernel_rfl) (by kernel_rfl) ?_
                    refine CW.skip ?_
                    refine EX.then_code ?_
                    refine CW.seq ?_
                    refine CW.seq ?_
                    refine CW.region ?_
                    refine WL.q (.bool false) (by kernel_rfl) rfl (by kernel_rfl) (by kernel_rfl) ?_
                    refine WL.nil ?_
                    refine EX.then_code ?_
                    refine CW.cond_f (by kernel_rfl) (by kernel_rfl) ?_
                    refine CW.skip ?_
                    refine EX.then_code ?_
                    refine CW.seq ?_
                    refine CW.region ?_
                    refine WL.q (.int .i64 ((fs.getD j factE.dflt).id)) (by kernel_rfl) rfl (by kernel_rfl) (by kernel_rfl) ?_
                    refine WL.q (.slice ao fs.length co) (by kernel_rfl) rfl (by kernel_rfl) (by kernel_rfl) ?_
                    refine WL.q (.int .i64 (j : Int)) (by kernel_rfl) rfl (by kernel_rfl) (by kernel_rfl) ?_
                    refine WL.q (eptr ao (j * factE.sz)) (by kernel_rfl) rfl (by kernel_rfl) (q_indexAddr (i := j) (E := factE) (xs := fs) (e := 43) (c := co) (k := .i64) (m := fs.length) rfl rfl (by kernel_rfl) (by kernel_rfl) (by kernel_rfl) (f_row6.mono (((((l11.trans l18).trans l28).trans l96).trans l97).trans G97.imm)) (by omega)) ?_
                    refine WL.q (eptr ao (j * factE.sz + 0)) (by kernel_rfl) rfl (by kernel_rfl) (q_fieldAddr_e (i := j) (k := j * factE.sz) (off := 0) rfl (by kernel_rfl) (by kernel_rfl) (f_row6.mono (((((l11.trans l18).trans l28).trans l96).trans l97).trans G97.imm)) (by omega)) ?_
                    refine WL.q (.int .i64 (((fs.getD j factE.dflt)).id)) (by kernel_rfl) rfl (by kernel_rfl) (q_load_e (i := j) (k := 0) (E := factE) rfl (by kernel_rfl) (by kernel_rfl) (f_row6.mono (((((l11.trans l18).trans l28).trans l96).trans l97).trans G97.imm)) (by omega) (by decide) (by kernel_rfl)) ?_
                    refine WL.q (.bool false) (by kernel_rfl) rfl (by kernel_rfl) (q_bool (x := (((fs.getD j factE.dflt).id : Int) != ((fs.getD j factE.dflt)).id)) (by kernel_rfl) (bne_self_eq_false _)) ?_
                    refine WL.nil ?_
                    refine EX.then_code ?_
                    refine CW.cond_f (by kernel_rfl) (by kernel_rfl) ?_
                    refine CW.skip ?_
                    refine EX.in_block ?_
                    exact EX.then_cut ⟨p, fs, ao, co, nx⟩ ⟨(by kernel_rfl), (by kernel_rfl), (by kernel_rfl), (by kernel_rfl), (by kernel_rfl), trivial⟩ ⟨h97, M0_6, (l96.trans l97), G97, (MemA.mono ((((l11.trans l18).trans l28).trans l96).trans l97) o_mem6), (f_row6.mono ((((l11.trans l18).trans l28).trans l96).trans l97)), (all_up @factG.mono ((((l11.trans l18).trans l28).trans l96).trans l97) fg_row6), (by first | (dsimp only; omega) | (dsimp only; simp only [List.length_append, List.length_cons, List.length_nil, List.length_take, List.length_drop] at *; omega)), (by first | (dsimp only; omega) | (dsimp only; simp only [List.length_append, List.length_cons, List.length_nil, List.length_take, List.length_drop] at *; omega)), (by first | (dsimp only; omega) | (dsimp only; simp only [List.length_append, List.length_cons, List.length_nil, List.length_take, List.length_drop] at *; omega))⟩
                ·
                  skip
                  have d98 := ne_of_beq_false c54
                  refine CW.seq ?_
                  refine CW.region ?_
                  refine WL.q (.bool ((((l.getD i actE.dflt)).op : Int) == 2)) (by kernel_rfl) rfl (by kernel_rfl) (by kernel_rfl) ?_
                  refine WL.q (.bool ((((l.getD i actE.dflt)).op : Int) == 2)) (by kernel_rfl) rfl (by kernel_rfl) (by kernel_rfl) ?_
                  refine WL.nil ?_
                  refine EX.then_code ?_
                  refine CW.cond ((((l.getD i actE.dflt)).op : Int) == 2) (by kernel_rfl) (by kernel_rfl) (fun c99 => ?_) (fun c99 => ?_)
                  ·
                    skip
                    have d100 := eq_of_beq c99
                    refine CW.seq ?_
                    refine CW.seq ?_
                    refine CW.region ?_
                    refine WL.q (.pointer (some ⟨p, 0, none⟩)) (by kernel_rfl) rfl (by kernel_rfl) (by kernel_rfl) ?_
                    refine WL.q (.pointer (some ⟨b9, 1, none⟩)) (by kernel_rfl) rfl (by kernel_rfl) (by kernel_rfl) ?_
                    refine WL.q (.int .i64 (((l.getD i actE.dflt)).id)) (by kernel_rfl) rfl (by kernel_rfl) (q_load (off := 1) rfl (by kernel_rfl) (by kernel_rfl) (G28.imm _ _ ((l18.trans l28) _ _ hb11)) (by kernel_rfl)) ?_
                    rcases atK_cases fs (qF (l.getD i actE.dflt).op (l.getD i actE.dflt).id (l.getD i actE.dflt).t (l.getD i actE.dflt).vals) fs.length with ⟨hat, hno⟩ | ⟨j, hj, hat, hyes⟩
                    ·
                      skip
                      refine WL.know 9 (.int .i64 (-1)) (x := .int .i64 (atK fs (qF (l.getD i actE.dflt).op (l.getD i actE.dflt).id (l.getD i actE.dflt).t (l.getD i actE.dflt).vals) k)) (by kernel_rfl) (congrArg (Value.int .i64) (by rw [show k = fs.length by omega]; exact hat)) ?_
                      have hop := eq_of_beq c99
                      rw [hop] at hno
                      obtain ⟨hany, hfil⟩ := ret_no hno
                      refine WL.call (by kernel_rfl) rfl (by kernel_rfl) (by kernel_rfl) (retractA G28 (MemA.mono ((l11.trans l18).trans l28) o_mem6) (T.mono (((((l1.trans l5).trans l6).trans l11).trans l18).trans l28)) (((l.getD i actE.dflt)).id)) (RetM.elim ?_)
                      rintro w101 h101 M101 _ l101 G101 ⟨rfl, A101⟩
                      refine WL.know 186 (.bool false) (x := (.bool ((fs.map dat).any fun (d : Dat) => d.1 == (((l.getD i actE.dflt)).id)))) (by kernel_rfl) (congrArg Value.bool hany) ?_
                      have A102 : MemA h101 p (fs.map dat) nx M M101 := hfil ▸ A101
                      refine WL.q (.int .i64 (-1)) (by kernel_rfl) rfl (by kernel_rfl) (by kernel_rfl) ?_
                      refine WL.q (.bool false) (by kernel_rfl) rfl (by kernel_rfl) (by kernel_rfl) ?_
                      refine WL.q (.bool false) (by kernel_rfl) rfl (by kernel_rfl) (by kernel_rfl) ?_
                      refine WL.nil ?_
                      refine EX.then_code ?_
                      refine CW.cond_f (by kernel_rfl) (by kernel_rfl) ?_
                      refine CW.skip ?_
                      refine EX.then_code ?_
                      refine CW.seq ?_
                      refine CW.region ?_
                      refine WL.q (.int .i64 (-1)) (by kernel_rfl) rfl (by kernel_rfl) (by kernel_rfl) ?_
                      refine WL.q (.bool false) (by kernel_rfl) rfl (by kernel_rfl) (by kernel_rfl) ?_
                      refine WL.nil ?_
                      refine EX.then_code ?_
                      refine CW.cond_f (by kernel_rfl) (by kernel_rfl) ?_
                      refine CW.skip ?_
                      refine EX.in_block ?_
                      exact EX.then_cut ⟨p, fs, ao, co, nx⟩ ⟨(by kernel_rfl), (by kernel_rfl), (by kernel_rfl), (by kernel_rfl), (by kernel_rfl), trivial⟩ ⟨h101, M101, l101, G101, A102, (f_row6.mono (((l11.trans l18).trans l28).trans l101)), (all_up @factG.mono (((l11.trans l18).trans l28).trans l101) fg_row6), (by first | (dsimp only; omega) | (dsimp only; simp only [List.length_append, List.length_cons, List.length_nil, List.length_take, List.length_drop] at *; omega)), (by first | (dsimp only; omega) | (dsimp only; simp only [List.length_append, List.length_cons, List.length_nil, List.length_take, List.length_drop] at *; omega)), (by first | (dsimp only; omega) | (dsimp only; simp only [List.length_append, List.length_cons, List.length_nil, List.length_take, List.length_drop] at *; omega))⟩
                    ·
                      skip
                      refine WL.know 9 (.int .i64 (j : Int)) (x := .int .i64 (atK fs (qF (l.getD i actE.dflt).op (l.getD i actE.dflt).id (l.getD i actE.dflt).t (l.getD i actE.dflt).vals) k)) (by kernel_rfl) (congrArg (Value.int .i64) (by rw [show k = fs.length by omega]; exact hat)) ?_
                      have hop := eq_of_beq c99
                      rw [hop] at hyes
                      obtain ⟨hany, hfil⟩ := ret_yes o_mem6.ok hj hyes
                      refine WL.call (by kernel_rfl) rfl (by kernel_rfl) (by kernel_rfl) (retractA G28 (MemA.mono ((l11.trans l18).trans l28) o_mem6) (T.mono (((((l1.trans l5).trans l6).trans l11).trans l18).trans l28)) (((l.getD i actE.dflt)).id)) (RetM.elim ?_)
                      rintro w103 h103 M103 _ l103 G103 ⟨rfl, A103⟩
                      refine WL.know 186 (.bool true) (x := (.bool ((fs.map dat).any fun (d : Dat) => d.1 == (((l.getD i actE.dflt)).id)))) (by kernel_rfl) (congrArg Value.bool hany) ?_
                      have A104 : MemA h103 p ((([] ++ fs.take j) ++ fs.drop (j + 1)).map dat) nx M M103 := hfil ▸ A103
                      refine WL.q (.int .i64 (j : Int)) (by kernel_rfl) rfl (by kernel_rfl) (by kernel_rfl) ?_
                      refine WL.q (.bool (decide ((j : Int) ≥ 0))) (by kernel_rfl) rfl (by kernel_rfl) (by kernel_rfl) ?_
                      refine WL.know 188 (.bool true) (x := (.bool (decide ((j : Int) ≥ 0)))) (by kernel_rfl) (congrArg Value.bool (decide_eq_true (by omega))) ?_
                      refine WL.q (.bool false) (by kernel_rfl) rfl (by kernel_rfl) (by kernel_rfl) ?_
                      refine WL.nil ?_
                      refine EX.then_code ?_
                      refine CW.cond_f (by kernel_rfl) (by kernel_rfl) ?_
                      refine CW.skip ?_
                      refine EX.then_code ?_
                      refine CW.seq ?_
                      refine CW.region ?_
                      refine WL.q (.int .i64 (j : Int)) (by kernel_rfl) rfl (by kernel_rfl) (by kernel_rfl) ?_
                      refine WL.q (.bool (decide ((j : Int) ≥ 0))) (by kernel_rfl) rfl (by kernel_rfl) (by kernel_rfl) ?_
                      refine WL.know 191 (.bool true) (x := (.bool (decide ((j : Int) ≥ 0)))) (by kernel_rfl) (congrArg Value.bool (decide_eq_true (by omega))) ?_
                      refine WL.nil ?_
                      refine EX.then_code ?_
                      refine CW.cond_t (by kernel_rfl) (by kernel_rfl) ?_
                      refine CW.draw (by kernel_rfl) [] ?_
                      refine DW.take (T := fun _ => True) 1 (.slice ao fs.length co) rfl (by kernel_rfl) rfl (by kernel_rfl) (.inl fun _ => trivial) (by kernel_rfl) (Deaf.block (Deaf.thens (Deaf.block (Deaf.thens (Deaf.thens (Deaf.block (Deaf.thens (Deaf.body RetM.not_panicked)))))))) (fun w_ _ => (by kernel_rfl)) trivial ?_
                      refine DW.take (T := fun _ => True) 2 (.int .i64 (j : Int)) rfl (by kernel_rfl) rfl (by kernel_rfl) (.inl fun _ => trivial) (by kernel_rfl) (Deaf.block (Deaf.thens (Deaf.block (Deaf.thens (Deaf.thens (Deaf.block (Deaf.thens (Deaf.body RetM.not_panicked)))))))) (fun w_ _ => (by kernel_rfl)) trivial ?_
                      refine DW.take (T := fun _ => True) 3 (.slice ao (((fs.take j)).length) co) rfl (by kernel_rfl) rfl (by kernel_rfl) (.inl fun _ => trivial) (by kernel_rfl) (Deaf.block (Deaf.thens (Deaf.block (Deaf.thens (Deaf.thens (Deaf.block (Deaf.thens (Deaf.body RetM.not_panicked)))))))) (fun w_ _ => (q_val (q_upto (e := 43) (sz := 3) (len := fs.length) (cap := co) (k := .i64) rfl (by kernel_rfl) (by kernel_rfl) (by kernel_rfl) (Nat.le_trans (show j ≤ fs.length by omega) (by omega))) (by rw [List.length_take, Nat.min_eq_left (by omega)]))) trivial ?_
                      refine DW.take (T := fun _ => True) 5 (.slice ao fs.length co) rfl (by kernel_rfl) rfl (by kernel_rfl) (.inl fun _ => trivial) (by kernel_rfl) (Deaf.block (Deaf.thens (Deaf.block (Deaf.thens (Deaf.thens (Deaf.block (Deaf.thens (Deaf.body RetM.not_panicked)))))))) (fun w_ _ => (by kernel_rfl)) trivial ?_
                      refine DW.take (T := fun _ => True) 6 (.int .i64 (j : Int)) rfl (by kernel_rfl) rfl (by kernel_rfl) (.inl fun _ => trivial) (by kernel_rfl) (Deaf.block (Deaf.thens (Deaf.block (Deaf.thens (Deaf.thens (Deaf.block (Deaf.thens (Deaf.body RetM.not_panicked)))))))) (fun w_ _ => (by kernel_rfl)) trivial ?_
                      refine DW.take (T := fun _ => True) 7 (.int .i64 ((j + 1 : Nat) : Int)) rfl (by kernel_rfl) rfl (by kernel_rfl) (.inl fun _ => trivial) (by kernel_rfl) (Deaf.block (Deaf.thens (Deaf.block (Deaf.thens (Deaf.thens (Deaf.block (Deaf.thens (Deaf.body RetM.not_panicked)))))))) (fun w_ _ => (q_int (x := IntKind.i64.wrap ((j : Int) + 1)) (by kernel_rfl) (wrap_to (by omega) (by omega) (by omega)))) trivial ?_
                      refine DW.take (T := fun _ => True) 8 (.slice (aft ao co (j + 1) 3) (((fs.drop (j + 1))).length) (co - (j + 1))) rfl (by kernel_rfl) rfl (by kernel_rfl) (.inl fun _ => trivial) (by kernel_rfl) (Deaf.block (Deaf.thens (Deaf.block (Deaf.thens (Deaf.thens (Deaf.block (Deaf.thens (Deaf.body RetM.not_panicked)))))))) (fun w_ _ => (q_val (q_from (e := 43) (sz := 3) (len := fs.length) (cap := co) (lo := (j + 1)) (k := .i64) rfl (by kernel_rfl) (by kernel_rfl) (by kernel_rfl) (show (j + 1) ≤ fs.length by omega)) (by rw [List.length_drop]))) trivial ?_
                      refine DW.only 0 (by kernel_rfl) ?_
                      refine DOp.ex rfl (by kernel_rfl) rfl (by kernel_rfl) (q_newB (ob := (.cells #[] 43 (0, 0))) (G103.drew) (fun b_ => .slice (some ⟨b_, 0, none⟩) 0 0) (fun u_ => by kernel_rfl)) (fun v_ w105 p_ => by obtain ⟨b105, M105, rfl, G105, B105, L105⟩ := p_; exact trivial) ?_
                      rintro _ w105 ⟨b105, M105, rfl, G105, B105, L105⟩
                      have o105 : Own 43 factE M103 M105 (some ⟨b105, 0, none⟩) 0 ([] : List _) := Own.lit2 B105 (by kernel_rfl) (by kernel_rfl) (by decide)
                      have g105 : ∀ e_ ∈ ([] : List _), factG h103 e_ := all_nil
                      refine DW.only 4 (by kernel_rfl) ?_
                      refine DOp.ex rfl (by kernel_rfl) rfl (by kernel_rfl) (q_app (e := 43) (bytes := 48) (cap := 0) (c2 := co) (M0 := M103) (xs := ([] : List _)) (ys := (fs.take j)) G105 o105 ((f_row6.upto j).mono ((((l11.trans l18).trans l28).trans l103).trans G105.imm)) rfl (by kernel_rfl) (by kernel_rfl) (by kernel_rfl) (by first | (simp [maxLen]; omega) | (simp only [maxLen, List.length_append, List.length_cons, List.length_nil, List.length_take, List.length_drop]; omega) | (simp only [maxLen]; omega)) (by first | omega | (simp; omega) | (simp only [List.length_append, List.length_cons, List.length_nil, List.length_take, List.length_drop]; omega))) (fun v_ w106 p_ => by obtain ⟨a106, k106, M106, rfl, G106, o106, z106⟩ := p_; exact trivial) ?_
                      rintro _ w106 ⟨a106, k106, M106, rfl, G106, o106, z106⟩
                      have g106 : ∀ e_ ∈ ([] ++ (fs.take j)), factG h103 e_ := all_app g105 (all_up @factG.mono (((l11.trans l18).trans l28).trans l103) (all_take fg_row6))
                      refine DW.only 9 (by kernel_rfl) ?_
                      refine DOp.ex rfl (by kernel_rfl) rfl (by kernel_rfl) (q_app (e := 43) (bytes := 48) (cap := k106) (c2 := (co - (j + 1))) (M0 := M103) (xs := ([] ++ (fs.take j))) (ys := (fs.drop (j + 1))) G106 o106 ((f_row6.aft (cap := co) (show (j + 1) ≤ fs.length by omega) (by omega)).mono ((((l11.trans l18).trans l28).trans l103).trans G106.imm)) rfl (by kernel_rfl) (by kernel_rfl) (by kernel_rfl) (by first | (simp [maxLen]; omega) | (simp only [maxLen, List.length_append, List.length_cons, List.length_nil, List.length_take, List.length_drop]; omega) | (simp only [maxLen]; omega)) (by first | omega | (simp; omega) | (simp only [List.length_append, List.length_cons, List.length_nil, List.length_take, List.length_drop]; omega))) (fun v_ w107 p_ => by obtain ⟨a107, k107, M107, rfl, G107, o107, z107⟩ := p_; exact trivial) ?_
                      rintro _ w107 ⟨a107, k107, M107, rfl, G107, o107, z107⟩
                      have g107 : ∀ e_ ∈ (([] ++ (fs.take j)) ++ (fs.drop (j + 1))), factG h103 e_ := all_app g106 (all_up @factG.mono (((l11.trans l18).trans l28).trans l103) (all_drop fg_row6))
                      refine DW.take (T := fun _ => True) 10 (.slice a107 ((([] ++ (fs.take j)) ++ (fs.drop (j + 1))).length) k107) rfl (by kernel_rfl) rfl (by kernel_rfl) (.inl fun _ => trivial) (by kernel_rfl) (Deaf.block (Deaf.thens (Deaf.block (Deaf.thens (Deaf.thens (Deaf.block (Deaf.thens (Deaf.body RetM.not_panicked)))))))) (fun w_ _ => (by kernel_rfl)) trivial ?_
                      refine DW.done (by kernel_rfl) ?_
                      refine EX.in_block ?_
                      have hcap_ := o107.cap_le
                      obtain ⟨h108, l108, G108, r108⟩ := o107.freeze G107
                      exact EX.then_cut ⟨p, (([] ++ (fs.take j)) ++ (fs.drop (j + 1))), a107, k107, nx⟩ ⟨(by kernel_rfl), (by kernel_rfl), (by kernel_rfl), (by kernel_rfl), (by kernel_rfl), trivial⟩ ⟨h108, M103, (l103.trans l108), G108, (MemA.mono l108 A104), (r108.mono (PH.le_refl _)), (all_up @factG.mono l108 g107), (by first | (dsimp only; omega) | (dsimp only; simp only [List.length_append, List.length_cons, List.length_nil, List.length_take, List.length_drop] at *; omega)), (by first | (dsimp only; omega) | (dsimp only; simp only [List.length_append, List.length_cons, List.length_nil, List.length_take, List.length_drop] at *; omega)), (by first | (dsimp only; omega) | (dsimp only; simp only [List.length_append, List.length_cons, List.length_nil, List.length_take, List.length_drop] at *; omega))⟩
                  ·
                    skip
                    have d109 := ne_of_beq_false c99
                    refine CW.seq ?_
                    refine CW.region ?_
                    refine WL.q (.bool ((((l.getD i actE.dflt)).op : Int) == 3)) (by kernel_rfl) rfl (by kernel_rfl) (by kernel_rfl) ?_
                    refine WL.q (.bool ((((l.getD i actE.dflt)).op : Int) == 3)) (by kernel_rfl) rfl (by kernel_rfl) (by kernel_rfl) ?_
                    refine WL.nil ?_
                    refine EX.then_code ?_
                    refine CW.cond ((((l.getD i actE.dflt)).op : Int) == 3) (by kernel_rfl) (by kernel_rfl) (fun c110 => ?_) (fun c110 => ?_)
                    ·
                      skip
                      have d111 := eq_of_beq c110
                      refine CW.seq ?_
                      refine CW.region ?_
                      refine WL.q (.pointer (some ⟨p, 0, none⟩)) (by kernel_rfl) rfl (by kernel_rfl) (by kernel_rfl) ?_
                      refine WL.call (by kernel_rfl) rfl (by kernel_rfl) (by kernel_rfl) (twinA G28 (MemA.mono ((l11.trans l18).trans l28) o_mem6) (PH.le_refl _) (T.mono (((((l1.trans l5).trans l6).trans l11).trans l18).trans l28))) (RetM.elim ?_)
                      rintro w112 h112 M112 _ l112 G112 ⟨p112, rfl, A112⟩
                      refine WL.q (.pointer (some ⟨p112, 0, none⟩)) (by kernel_rfl) rfl (by kernel_rfl) (by kernel_rfl) ?_
                      refine WL.nil ?_
                      refine EX.then_code ?_
                      refine CW.seq ?_
                      refine CW.seq ?_
                      refine CW.region ?_
                      refine WL.q (.pointer (some ⟨p112, 0, none⟩)) (by kernel_rfl) rfl (by kernel_rfl) (by kernel_rfl) ?_
                      refine WL.q (.bool false) (by kernel_rfl) rfl (by kernel_rfl) (by kernel_rfl) ?_
                      refine WL.nil ?_
                      refine EX.then_code ?_
                      refine CW.cond_f (by kernel_rfl) (by kernel_rfl) ?_
                      refine CW.skip ?_
                      refine EX.then_code ?_
                      refine CW.seq ?_
                      refine CW.seq ?_
                      refine CW.region ?_
                      refine WL.q (.int .i64 0) (by kernel_rfl) rfl (by kernel_rfl) (by kernel_rfl) ?_
                      refine WL.nil ?_
                      refine EX.then_code ?_
                      refine CW.block ?_
                      obtain ⟨N113, s114, s115⟩ : ∃ N_, MemA h112 p112 (fs.map dat) nx M N_ ∧ MemA h6 p (fs.map dat) nx N_ M112 := Ly.swap (Ly.memA h6 p (fs.map dat) nx) (Ly.memA h112 p112 (fs.map dat) nx) o_mem6 A112
                      refine CW.loop (β := Nat × List Dat) (fun x_ => [(0, (.slice a l.length c)), (3, (.pointer (some ⟨p, 0, none⟩))), (4, (.slice ao fs.length co)), (5, (.int .i64 nx)), (6, (.int .i64 (i : Int))), (16, (.pointer (some ⟨p112, 0, none⟩))), (17, (.int .i64 (x_.1 : Int)))]) (fun x_ w_ => ∃ h_ M0_, (PH.le h112 h_) ∧ (Wld K w_ h_ M0_) ∧ (MemA h_ p x_.2 nx N113 M0_) ∧ (x_.1 ≤ fs.length)) (fun x_ => fs.length - x_.1) ⟨0, (fs.map dat)⟩ ⟨(by kernel_rfl), (by kernel_rfl), (by kernel_rfl), (by kernel_rfl), (by kernel_rfl), (by kernel_rfl), (lk_int (x := 0) (by kernel_rfl) (by first | omega | (dsimp only; omega) | rfl | (dsimp only; rfl))), trivial⟩ ⟨h112, M112, (PH.le_refl _), G112, (MemA.mono (((l11.trans l18).trans l28).trans l112) s115), (by first | omega | assumption | (dsimp only [List.length_nil, List.length_append, List.length_cons]; omega))⟩ ?_
                      rintro ⟨k, ds2⟩ w116 ⟨h116, M0_116, l116, G116, o_mem116, hk3⟩
                      try dsimp only at *
                      refine CW.seq ?_
                      refine CW.seq ?_
                      refine CW.region ?_
                      refine WL.q (.int .i64 (k : Int)) (by kernel_rfl) rfl (by kernel_rfl) (by kernel_rfl) ?_
                      refine WL.q (.slice ao fs.length co) (by kernel_rfl) rfl (by kernel_rfl) (by kernel_rfl) ?_
                      refine WL.q (.int .i64 (fs.length : Int)) (by kernel_rfl) rfl (by kernel_rfl) (by kernel_rfl) ?_
                      refine WL.q (.bool (decide ((k : Int) < (fs.length : Int)))) (by kernel_rfl) rfl (by kernel_rfl) (by kernel_rfl) ?_
                      refine WL.nil ?_
                      refine EX.then_code ?_
                      refine CW.cond (decide ((k : Int) < (fs.length : Int))) (by kernel_rfl) (by kernel_rfl) (fun c117 => ?_) (fun c117 => ?_)
                      ·
                        skip
                        have d118 := of_decide_eq_true c117
                        refine CW.skip ?_
                        refine EX.then_code ?_
                        refine CW.seq ?_
                        refine CW.block ?_
                        refine CW.region ?_
                        refine WL.q (.pointer (some ⟨p, 0, none⟩)) (by kernel_rfl) rfl (by kernel_rfl) (by kernel_rfl) ?_
                        refine WL.q (.slice ao fs.length co) (by kernel_rfl) rfl (by kernel_rfl) (by kernel_rfl) ?_
                        refine WL.q (.int .i64 (k : Int)) (by kernel_rfl) rfl (by kernel_rfl) (by kernel_rfl) ?_
                        refine WL.q (eptr ao (k * factE.sz)) (by kernel_rfl) rfl (by kernel_rfl) (q_indexAddr (i := k) (E := factE) (xs := fs) (e := 43) (c := co) (k := .i64) (m := fs.length) rfl rfl (by kernel_rfl) (by kernel_rfl) (by kernel_rfl) (f_row6.mono (((((l11.trans l18).trans l28).trans l112).trans l116).trans G116.imm)) (by omega)) ?_
                        refine WL.q (eptr ao (k * factE.sz + 0)) (by kernel_rfl) rfl (by kernel_rfl) (q_fieldAddr_e (i := k) (k := k * factE.sz) (off := 0) rfl (by kernel_rfl) (by kernel_rfl) (f_row6.mono (((((l11.trans l18).trans l28).trans l112).trans l116).trans G116.imm)) (by omega)) ?_
                        refine WL.q (.int .i64 (((fs.getD k factE.dflt)).id)) (by kernel_rfl) rfl (by kernel_rfl) (q_load_e (i := k) (k := 0) (E := factE) rfl (by kernel_rfl) (by kernel_rfl) (f_row6.mono (((((l11.trans l18).trans l28).trans l112).trans l116).trans G116.imm)) (by omega) (by decide) (by kernel_rfl)) ?_
                        refine WL.call (by kernel_rfl) rfl (by kernel_rfl) (by kernel_rfl) (retractA G116 o_mem116 (T.mono (((((((l1.trans l5).trans l6).trans l11).trans l18).trans l28).trans l112).trans l116)) (((fs.getD k factE.dflt)).id)) (RetM.elim ?_)
                        rintro w119 h119 M119 _ l119 G119 ⟨rfl, A119⟩
                        refine WL.nil ?_
                        refine EX.in_block ?_
                        refine EX.then_code ?_
                        refine CW.region ?_
                        refine WL.q (.int .i64 (k : Int)) (by kernel_rfl) rfl (by kernel_rfl) (by kernel_rfl) ?_
                        refine WL.q (.int .i64 ((k + 1 : Nat) : Int)) (by kernel_rfl) rfl (by kernel_rfl) (q_int (x := IntKind.i64.wrap ((k : Int) + 1)) (by kernel_rfl) (wrap_to (by omega) (by omega) (by omega))) ?_
                        refine WL.q (.int .i64 ((k + 1 : Nat) : Int)) (by kernel_rfl) rfl (by kernel_rfl) (by kernel_rfl) ?_
                        refine WL.nil ?_
                        exact EX.then_loop ⟨k + 1, (ds2.filter fun (d : Dat) => d.1 ≠ (((fs.getD k factE.dflt)).id))⟩ ⟨(by kernel_rfl), (by kernel_rfl), (by kernel_rfl), (by kernel_rfl), (by kernel_rfl), (by kernel_rfl), (lk_int (x := ((k + 1 : Nat) : Int)) (by kernel_rfl) (by first | omega | (dsimp only; omega) | rfl | (dsimp only; rfl))), trivial⟩ ⟨h119, M119, (l116.trans l119), G119, A119, (by first | omega | assumption | (dsimp only [List.length_nil, List.length_append, List.length_cons]; omega))⟩ (by first | omega | (dsimp only; omega))
                      ·
                        skip
                        have d120 := of_decide_eq_false c117
                        refine CW.exit ?_
                        refine EX.exit_then ?_
                        refine EX.exit_then ?_
                        refine EX.exit_here ?_
                        refine EX.then_code ?_
                        refine CW.region ?_
                        refine WL.q (.pointer (some ⟨p112, 0, none⟩)) (by kernel_rfl) rfl (by kernel_rfl) (by kernel_rfl) ?_
                        refine WL.q (.pointer (some ⟨p112, 0, none⟩)) (by kernel_rfl) rfl (by kernel_rfl) (by kernel_rfl) ?_
                        refine WL.nil ?_
                        refine EX.in_block ?_
                        exact EX.then_cut ⟨p112, fs, ao, co, nx⟩ ⟨(by kernel_rfl), (by kernel_rfl), (by kernel_rfl), (by kernel_rfl), (by kernel_rfl), trivial⟩ ⟨h116, N113, (l112.trans l116), (G116.drop (Ly.le (Ly.memA h116 p ds2 nx) o_mem116)), (MemA.mono l116 s114), (f_row6.mono ((((l11.trans l18).trans l28).trans l112).trans l116)), (all_up @factG.mono ((((l11.trans l18).trans l28).trans l112).trans l116) fg_row6), (by first | (dsimp only; omega) | (dsimp only; simp only [List.length_append, List.length_cons, List.length_nil, List.length_take, List.length_drop] at *; omega)), (by first | (dsimp only; omega) | (dsimp only; simp only [List.length_append, List.length_cons, List.length_nil, List.length_take, List.length_drop] at *; omega)), (by first | (dsimp only; omega) | (dsimp only; simp only [List.length_append, List.length_cons, List.length_nil, List.length_take, List.length_drop] at *; omega))⟩
                    ·
                      skip
                      have d121 := ne_of_beq_false c110
                      refine CW.seq ?_
                      refine CW.region ?_
                      refine WL.q (.bool ((((l.getD i actE.dflt)).op : Int) == 4)) (by kernel_rfl) rfl (by kernel_rfl) (by kernel_rfl) ?_
                      refine WL.q (.bool ((((l.getD i actE.dflt)).op : Int) == 4)) (by kernel_rfl) rfl (by kernel_rfl) (by kernel_rfl) ?_
                      refine WL.nil ?_
                      refine EX.then_code ?_
                      refine CW.cond ((((l.getD i actE.dflt)).op : Int) == 4) (by kernel_rfl) (by kernel_rfl) (fun c122 => ?_) (fun c122 => ?_)
                      ·
                        skip
                        have d123 := eq_of_beq c122
                        refine CW.seq ?_
                        refine CW.region ?_
                        refine WL.q (.pointer (some ⟨p, 0, none⟩)) (by kernel_rfl) rfl (by kernel_rfl) (by kernel_rfl) ?_
                        refine WL.call (by kernel_rfl) rfl (by kernel_rfl) (by kernel_rfl) (allOA G28 (MemA.mono ((l11.trans l18).trans l28) o_mem6) (PH.le_refl _)) (RetM.elim ?_)
                        rintro w124 h124 M124 _ l124 G124 ⟨a4, c4, fs4, N124, rfl, I124, O124, hd4⟩
                        have hl4 := congrArg List.length hd4
                        rw [List.length_map, List.length_map] at hl4
                        have hok4 : ∀ f ∈ fs4, f.vals.length ≤ 100 := fun f hf => (o_mem6.ok.ok _ (hd4 ▸ List.mem_map.2 ⟨f, hf, rfl⟩)).2.1
                        refine WL.q (.slice a4 fs4.length fs4.length) (by kernel_rfl) rfl (by kernel_rfl) (by kernel_rfl) ?_
                        refine WL.nil ?_
                        refine EX.then_code ?_
                        refine CW.seq ?_
                        refine CW.region ?_
                        refine WL.q (.int .i64 0) (by kernel_rfl) rfl (by kernel_rfl) (by kernel_rfl) ?_
                        refine WL.nil ?_
                        refine EX.then_code ?_
                        refine CW.block ?_
                        have I0 : InnS (fs4.map fun (g : FactD) => (g.a, g.vals.length)) M0_6 N124 := ⟨fs4, I124, rfl⟩
                        obtain ⟨N125, s126, s127⟩ : ∃ N_, Own 55 factO M0_6 N_ a4 c4 fs4 ∧ InnS (fs4.map fun (g : FactD) => (g.a, g.vals.length)) N_ M124 := Ly.swap (Ly.innS (fs4.map fun (g : FactD) => (g.a, g.vals.length))) (Ly.own (E := factO) 55 a4 c4 fs4) I0 O124
                        refine CW.loop (β := Nat) (fun x_ => [(0, (.slice a l.length c)), (3, (.pointer (some ⟨p, 0, none⟩))), (4, (.slice ao fs.length co)), (5, (.int .i64 nx)), (6, (.int .i64 (i : Int))), (18, (.slice a4 fs4.length fs4.length)), (19, (.int .i64 (x_ : Int)))]) (fun x_ w_ => ∃ h_ M0_, (PH.le h124 h_) ∧ (Wld K w_ h_ M0_) ∧ (InnS (fs4.map fun (g : FactD) => (g.a, g.vals.length)) N125 M0_) ∧ (x_ ≤ fs4.length)) (fun x_ => fs4.length - x_) 0 ⟨(by kernel_rfl), (by kernel_rfl), (by kernel_rfl), (by kernel_rfl), (by kernel_rfl), (by kernel_rfl), (lk_int (x := 0) (by kernel_rfl) (by first | omega | (dsimp only; omega) | rfl | (dsimp only; rfl))), trivial⟩ ⟨h124, M124, (PH.le_refl _), G124, s127, (by first | omega | assumption | (dsimp only [List.length_nil, List.length_append, List.length_cons]; omega))⟩ ?_
                        rintro k w128 ⟨h128, M0_128, l128, G128, o_inn128, hk4⟩
                        try dsimp only at *
                        refine CW.seq ?_
                        refine CW.seq ?_
                        refine CW.region ?_
                        refine WL.q (.int .i64 (k : Int)) (by kernel_rfl) rfl (by kernel_rfl) (by kernel_rfl) ?_
                        refine WL.q (.slice a4 fs4.length fs4.length) (by kernel_rfl) rfl (by kernel_rfl) (by kernel_rfl) ?_
                        refine WL.q (.int .i64 (fs4.length : Int)) (by kernel_rfl) rfl (by kernel_rfl) (by kernel_rfl) ?_
                        refine WL.q (.bool (decide ((k : Int) < (fs4.length : Int)))) (by kernel_rfl) rfl (by kernel_rfl) (by kernel_rfl) ?_
                        refine WL.nil ?_
                        refine EX.then_code ?_
                        refine CW.cond (decide ((k : Int) < (fs4.length : Int))) (by kernel_rfl) (by kernel_rfl) (fun c129 => ?_) (fun c129 => ?_)
                        ·
                          skip
                          have d130 := of_decide_eq_true c129
                          refine CW.skip ?_
                          refine EX.then_code ?_
                          refine CW.seq ?_
                          refine CW.block ?_
                          refine CW.seq ?_
                          refine CW.region ?_
                          refine WL.q (.int .i64 0) (by kernel_rfl) rfl (by kernel_rfl) (by kernel_rfl) ?_
                          refine WL.nil ?_
                          refine EX.then_code ?_
                          refine CW.block ?_
                          refine CW.loop (β := Nat) (fun x_ => [(0, (.slice a l.length c)), (3, (.pointer (some ⟨p, 0, none⟩))), (4, (.slice ao fs.length co)), (5, (.int .i64 nx)), (6, (.int .i64 (i : Int))), (18, (.slice a4 fs4.length fs4.length)), (19, (.int .i64 (k : Int))), (20, (.int .i64 (x_ : Int)))]) (fun x_ w_ => ∃ h_ M0_, (PH.le h128 h_) ∧ (Wld K w_ h_ M0_) ∧ (InnS (fs4.map fun (g : FactD) => (g.a, g.vals.length)) N125 M0_) ∧ (x_ ≤ (fs4.getD k factO.dflt).vals.length)) (fun x_ => (fs4.getD k factO.dflt).vals.length - x_) 0 ⟨(by kernel_rfl), (by kernel_rfl), (by kernel_rfl), (by kernel_rfl), (by kernel_rfl), (by kernel_rfl), (by kernel_rfl), (lk_int (x := 0) (by kernel_rfl) (by first | omega | (dsimp only; omega) | rfl | (dsimp only; rfl))), trivial⟩ ⟨h128, M0_128, (PH.le_refl _), G128, o_inn128, (by first | omega | assumption | (dsimp only [List.length_nil, List.length_append, List.length_cons]; omega))⟩ ?_
                          rintro j4 w131 ⟨h131, M0_131, l131, G131, o_inn131, hj4⟩
                          try dsimp only at *
                          obtain ⟨vs, hvl, hvr⟩ := o_inn131.reads (al_get (fs := fs4) (k := k) (by omega))
                          have hvb := hok4 _ (getD_mem (d := factO.dflt) (show k < fs4.length by omega))
                          refine CW.seq ?_
                          refine CW.seq ?_
                          refine CW.region ?_
                          refine WL.q (.int .i64 (j4 : Int)) (by kernel_rfl) rfl (by kernel_rfl) (by kernel_rfl) ?_
                          refine WL.q (.slice a4 fs4.length fs4.length) (by kernel_rfl) rfl (by kernel_rfl) (by kernel_rfl) ?_
                          refine WL.q (.int .i64 (k : Int)) (by kernel_rfl) rfl (by kernel_rfl) (by kernel_rfl) ?_
                          refine WL.q (eptr a4 (k * factO.sz)) (by kernel_rfl) rfl (by kernel_rfl) (q_indexAddr (i := k) (E := factO) (xs := fs4) (e := 55) (c := fs4.length) (k := .i64) (m := fs4.length) rfl rfl (by kernel_rfl) (by kernel_rfl) (by kernel_rfl) (s126.reads.mono ((Ly.le (Ly.innS (fs4.map fun (g : FactD) => (g.a, g.vals.length))) o_inn131).trans G131.own)) (by omega)) ?_
                          refine WL.q (eptr a4 (k * factO.sz + 2)) (by kernel_rfl) rfl (by kernel_rfl) (q_fieldAddr_e (i := k) (k := k * factO.sz) (off := 2) rfl (by kernel_rfl) (by kernel_rfl) (s126.reads.mono ((Ly.le (Ly.innS (fs4.map fun (g : FactD) => (g.a, g.vals.length))) o_inn131).trans G131.own)) (by omega)) ?_
                          refine WL.q (.slice (((fs4.getD k factO.dflt)).a) (((fs4.getD k factO.dflt)).vals.length) (((fs4.getD k factO.dflt)).c)) (by kernel_rfl) rfl (by kernel_rfl) (q_load_e (i := k) (k := 2) (E := factO) rfl (by kernel_rfl) (by kernel_rfl) (s126.reads.mono ((Ly.le (Ly.innS (fs4.map fun (g : FactD) => (g.a, g.vals.length))) o_inn131).trans G131.own)) (by omega) (by decide) (by kernel_rfl)) ?_
                          refine WL.q (.int .i64 (((fs4.getD k factO.dflt)).vals.length : Int)) (by kernel_rfl) rfl (by kernel_rfl) (by kernel_rfl) ?_
                          refine WL.q (.bool (decide ((j4 : Int) < (((fs4.getD k factO.dflt)).vals.length : Int)))) (by kernel_rfl) rfl (by kernel_rfl) (by kernel_rfl) ?_
                          refine WL.nil ?_
                          refine EX.then_code ?_
                          refine CW.cond (decide ((j4 : Int) < (((fs4.getD k factO.dflt)).vals.length : Int))) (by kernel_rfl) (by kernel_rfl) (fun c132 => ?_) (fun c132 => ?_)
                          ·
                            skip
                            have d133 := of_decide_eq_true c132
                            refine CW.skip ?_
                            refine EX.then_code ?_
                            refine CW.seq ?_
                            refine CW.block ?_
                            refine CW.draw (by kernel_rfl) [(4, fun w_ => RS (PH.all w_) factO a4 fs4)] ?_
                            refine DW.take (T := fun _ => True) 0 (.slice a4 fs4.length fs4.length) rfl (by kernel_rfl) rfl (by kernel_rfl) (.inl fun _ => trivial) (by kernel_rfl) (Deaf.block (Deaf.thens (Deaf.thens (Deaf.block (Deaf.block (Deaf.thens (Deaf.thens (Deaf.block (Deaf.block (Deaf.thens (Deaf.block (Deaf.thens (Deaf.thens (Deaf.block (Deaf.thens (Deaf.body RetM.not_panicked)))))))))))))))) (fun w_ _ => (by kernel_rfl)) trivial ?_
                            refine DW.take (T := fun _ => True) 1 (.int .i64 (k : Int)) rfl (by kernel_rfl) rfl (by kernel_rfl) (.inl fun _ => trivial) (by kernel_rfl) (Deaf.block (Deaf.thens (Deaf.thens (Deaf.block (Deaf.block (Deaf.thens (Deaf.thens (Deaf.block (Deaf.block (Deaf.thens (Deaf.block (Deaf.thens (Deaf.thens (Deaf.block (Deaf.thens (Deaf.body RetM.not_panicked)))))))))))))))) (fun w_ _ => (by kernel_rfl)) trivial ?_
                            refine DW.take (T := fun _ => True) 2 (eptr a4 (k * factO.sz)) rfl (by kernel_rfl) rfl (by kernel_rfl) (.inl fun _ => trivial) (by kernel_rfl) (Deaf.block (Deaf.thens (Deaf.thens (Deaf.block (Deaf.block (Deaf.thens (Deaf.thens (Deaf.block (Deaf.block (Deaf.thens (Deaf.block (Deaf.thens (Deaf.thens (Deaf.block (Deaf.thens (Deaf.body RetM.not_panicked)))))))))))))))) (fun w_ _ => (q_indexAddr (i := k) (E := factO) (xs := fs4) (e := 55) (c := fs4.length) (k := .i64) (m := fs4.length) rfl rfl (by kernel_rfl) (by kernel_rfl) (by kernel_rfl) (s126.reads.mono ((Ly.le (Ly.innS (fs4.map fun (g : FactD) => (g.a, g.vals.length))) o_inn131).trans (G131.drew).own)) (by omega))) trivial ?_
                            refine DW.take (T := fun _ => True) 3 (eptr a4 (k * factO.sz + 2)) rfl (by kernel_rfl) rfl (by kernel_rfl) (.inl fun _ => trivial) (by kernel_rfl) (Deaf.block (Deaf.thens (Deaf.thens (Deaf.block (Deaf.block (Deaf.thens (Deaf.thens (Deaf.block (Deaf.block (Deaf.thens (Deaf.block (Deaf.thens (Deaf.thens (Deaf.block (Deaf.thens (Deaf.body RetM.not_panicked)))))))))))))))) (fun w_ _ => (q_fieldAddr_e (i := k) (k := k * factO.sz) (off := 2) rfl (by kernel_rfl) (by kernel_rfl) (s126.reads.mono ((Ly.le (Ly.innS (fs4.map fun (g : FactD) => (g.a, g.vals.length))) o_inn131).trans (G131.drew).own)) (by omega))) trivial ?_
                            refine DW.take (T := fun w_ => RS (PH.all w_) factO a4 fs4) 4 (.slice (((fs4.getD k factO.dflt)).a) (((fs4.getD k factO.dflt)).vals.length) (((fs4.getD k factO.dflt)).c)) rfl (by kernel_rfl) rfl (by kernel_rfl) (.inr (by first | exact .head _ | exact .tail _ (.head _) | exact .tail _ (.tail _ (.head _)) | exact .tail _ (.tail _ (.tail _ (.head _))) | simp)) (by kernel_rfl) (Deaf.block (Deaf.thens (Deaf.thens (Deaf.block (Deaf.block (Deaf.thens (Deaf.thens (Deaf.block (Deaf.block (Deaf.thens (Deaf.block (Deaf.thens (Deaf.thens (Deaf.block (Deaf.thens (Deaf.body RetM.not_panicked)))))))))))))))) (fun w_ T_ => (q_load_e (i := k) (k := 2) (E := factO) rfl (by kernel_rfl) (by kernel_rfl) T_ (by omega) (by decide) (by kernel_rfl))) (s126.reads.mono ((Ly.le (Ly.innS (fs4.map fun (g : FactD) => (g.a, g.vals.length))) o_inn131).trans (G131.drew).own)) ?_
                            refine DW.take (T := fun _ => True) 5 (.int .i64 (j4 : Int)) rfl (by kernel_rfl) rfl (by kernel_rfl) (.inl fun _ => trivial) (by kernel_rfl) (Deaf.block (Deaf.thens (Deaf.thens (Deaf.block (Deaf.block (Deaf.thens (Deaf.thens (Deaf.block (Deaf.block (Deaf.thens (Deaf.block (Deaf.thens (Deaf.thens (Deaf.block (Deaf.thens (Deaf.body RetM.not_panicked)))))))))))))))) (fun w_ _ => (by kernel_rfl)) trivial ?_
                            refine DW.only 6 (by kernel_rfl) ?_
                            refine DOp.call rfl (by kernel_rfl) rfl (by kernel_rfl) (by kernel_rfl) (int_spec (G131.drew) 99) (Ret.elimD (fun w134 h134 l134 G134 => ⟨.inr (fun _ => (s126.reads.mono ((Ly.le (Ly.innS (fs4.map fun (g : FactD) => (g.a, g.vals.length))) o_inn131).trans G134.own))), trivial⟩) ?_)
                            rintro w134 h134 _ l134 G134 rfl
                            refine DW.take (T := fun _ => True) 7 (eptr (((fs4.getD k factO.dflt)).a) (j4 * valE.sz)) rfl (by kernel_rfl) rfl (by kernel_rfl) (.inl fun _ => trivial) (by kernel_rfl) (Deaf.block (Deaf.thens (Deaf.thens (Deaf.block (Deaf.block (Deaf.thens (Deaf.thens (Deaf.block (Deaf.block (Deaf.thens (Deaf.block (Deaf.thens (Deaf.thens (Deaf.block (Deaf.thens (Deaf.body RetM.not_panicked)))))))))))))))) (fun w_ _ => (q_indexAddr (i := j4) (E := valE) (xs := vs) (e := 29) (c := (((fs4.getD k factO.dflt)).c)) (k := .i64) (m := (((fs4.getD k factO.dflt)).vals.length)) (by omega) rfl (by kernel_rfl) (by kernel_rfl) (by kernel_rfl) hvr (by omega))) trivial ?_
                            refine DW.only 8 (by kernel_rfl) ?_
                            refine DOp.exu rfl (by kernel_rfl) rfl (by kernel_rfl) (q_storeInn (v := (.agg #[(.int .i64 1), (.int .i64 99), (.string (ByteArray.mk #[]))])) (Val.mk 1 99 (ByteArray.mk #[])) G134 o_inn131 (al_get (fs := fs4) (k := k) (by omega)) (j := j4) (by omega) rfl (by kernel_rfl) (by kernel_rfl) (by kernel_rfl) (by kernel_rfl)) (fun w135 p_ => by obtain ⟨M135, G135, I135⟩ := p_; exact ⟨.inl (by kernel_rfl), trivial⟩) ?_
                            rintro w135 ⟨M135, G135, I135⟩
                            refine DW.done (by kernel_rfl) ?_
                            refine EX.in_block ?_
                            refine EX.then_code ?_
                            refine CW.region ?_
                            refine WL.q (.int .i64 (j4 : Int)) (by kernel_rfl) rfl (by kernel_rfl) (by kernel_rfl) ?_
                            refine WL.q (.int .i64 ((j4 + 1 : Nat) : Int)) (by kernel_rfl) rfl (by kernel_rfl) (q_int (x := IntKind.i64.wrap ((j4 : Int) + 1)) (by kernel_rfl) (wrap_to (by omega) (by omega) (by omega))) ?_
                            refine WL.q (.int .i64 ((j4 + 1 : Nat) : Int)) (by kernel_rfl) rfl (by kernel_rfl) (by kernel_rfl) ?_
                            refine WL.nil ?_
                            exact EX.then_loop (j4 + 1) ⟨(by kernel_rfl), (by kernel_rfl), (by kernel_rfl), (by kernel_rfl), (by kernel_rfl), (by kernel_rfl), (by kernel_rfl), (lk_int (x := ((j4 + 1 : Nat) : Int)) (by kernel_rfl) (by first | omega | (dsimp only; omega) | rfl | (dsimp only; rfl))), trivial⟩ ⟨h134, M135, (l131.trans l134), G135, I135, (by first | omega | assumption | (dsimp only [List.length_nil, List.length_append, List.length_cons]; omega))⟩ (by first | omega | (dsimp only; omega))
                          ·
                            skip
                            have d136 := of_decide_eq_false c132
                            refine CW.exit ?_
                            refine EX.exit_then ?_
                            refine EX.exit_then ?_
                            refine EX.exit_here ?_
                            refine EX.in_block ?_
                            refine EX.then_code ?_
                            refine CW.region ?_
                            refine WL.q (.int .i64 (k : Int)) (by kernel_rfl) rfl (by kernel_rfl) (by kernel_rfl) ?_
                            refine WL.q (.int .i64 ((k + 1 : Nat) : Int)) (by kernel_rfl) rfl (by kernel_rfl) (q_int (x := IntKind.i64.wrap ((k : Int) + 1)) (by kernel_rfl) (wrap_to (by omega) (by omega) (by omega))) ?_
                            refine WL.q (.int .i64 ((k + 1 : Nat) : Int)) (by kernel_rfl) rfl (by kernel_rfl) (by kernel_rfl) ?_
                            refine WL.nil ?_
                            exact EX.then_loop (k + 1) ⟨(by kernel_rfl), (by kernel_rfl), (by kernel_rfl), (by kernel_rfl), (by kernel_rfl), (by kernel_rfl), (lk_int (x := ((k + 1 : Nat) : Int)) (by kernel_rfl) (by first | omega | (dsimp only; omega) | rfl | (dsimp only; rfl))), trivial⟩ ⟨h131, M0_131, (l128.trans l131), G131, o_inn131, (by first | omega | assumption | (dsimp only [List.length_nil, List.length_append, List.length_cons]; omega))⟩ (by first | omega | (dsimp only; omega))
                        ·
                          skip
                          have d137 := of_decide_eq_false c129
                          refine CW.exit ?_
                          refine EX.exit_then ?_
                          refine EX.exit_then ?_
                          refine EX.exit_here ?_
                          refine EX.in_block ?_
                          obtain ⟨N138, s139, s140⟩ : ∃ N_, InnS (fs4.map fun (g : FactD) => (g.a, g.vals.length)) M0_6 N_ ∧ Own 55 factO N_ M0_128 a4 c4 fs4 := Ly.swap (Ly.own (E := factO) 55 a4 c4 fs4) (Ly.innS (fs4.map fun (g : FactD) => (g.a, g.vals.length))) s126 o_inn128
                          obtain ⟨N141, s142, s143⟩ : ∃ N_, Own 55 factO M0_6 N_ a4 c4 fs4 ∧ InnS (fs4.map fun (g : FactD) => (g.a, g.vals.length)) N_ M0_128 := Ly.swap (Ly.innS (fs4.map fun (g : FactD) => (g.a, g.vals.length))) (Ly.own (E := factO) 55 a4 c4 fs4) s139 s140
                          exact EX.then_cut ⟨p, fs, ao, co, nx⟩ ⟨(by kernel_rfl), (by kernel_rfl), (by kernel_rfl), (by kernel_rfl), (by kernel_rfl), trivial⟩ ⟨h128, M0_6, (l124.trans l128), (G128.drop (s142.le.trans (Ly.le (Ly.innS (fs4.map fun (g : FactD) => (g.a, g.vals.length))) s143))), (MemA.mono ((((l11.trans l18).trans l28).trans l124).trans l128) o_mem6), (f_row6.mono ((((l11.trans l18).trans l28).trans l124).trans l128)), (all_up @factG.mono ((((l11.trans l18).trans l28).trans l124).trans l128) fg_row6), (by first | (dsimp only; omega) | (dsimp only; simp only [List.length_append, List.length_cons, List.length_nil, List.length_take, List.length_drop] at *; omega)), (by first | (dsimp only; omega) | (dsimp only; simp only [List.length_append, List.length_cons, List.length_nil, List.length_take, List.length_drop] at *; omega)), (by first | (dsimp only; omega) | (dsimp only; simp only [List.length_append, List.length_cons, List.length_nil, List.length_take, List.length_drop] at *; omega))⟩
                      ·
                        skip
                        have d144 := ne_of_beq_false c122
                        refine CW.skip ?_
                        refine EX.in_block ?_
                        exact EX.then_cut ⟨p, fs, ao, co, nx⟩ ⟨(by kernel_rfl), (by kernel_rfl), (by kernel_rfl), (by kernel_rfl), (by kernel_rfl), trivial⟩ ⟨h28, M0_6, (PH.le_refl _), G28, (MemA.mono ((l11.trans l18).trans l28) o_mem6), (f_row6.mono ((l11.trans l18).trans l28)), (all_up @factG.mono ((l11.trans l18).trans l28) fg_row6), (by first | (dsimp only; omega) | (dsimp only; simp only [List.length_append, List.length_cons, List.length_nil, List.length_take, List.length_drop] at *; omega)), (by first | (dsimp only; omega) | (dsimp only; simp only [List.length_append, List.length_cons, List.length_nil, List.length_take, List.length_drop] at *; omega)), (by first | (dsimp only; omega) | (dsimp only; simp only [List.length_append, List.length_cons, List.length_nil, List.length_take, List.length_drop] at *; omega))⟩
              ·
                skip
                rintro ⟨p2, fs2, ao2, co2, nx2⟩ w145 ⟨h145, M0_145, l145, G145, o_mem145, f_row145, fg_row145, hfl2, hfc2, hnx2⟩
                try dsimp only at *
                refine CW.seq ?_
                refine CW.region ?_
                refine WL.q (.pointer (some ⟨p2, 0, none⟩)) (by kernel_rfl) rfl (by kernel_rfl) (by kernel_rfl) ?_
                refine WL.call (by kernel_rfl) rfl (by kernel_rfl) (by kernel_rfl) (allA G145 o_mem145 (PH.le_refl _)) (Ret.elim ?_)
                rintro w146 h146 _ l146 G146 ⟨a146, fs146, rfl, r146, gg146, hd146⟩
                have hdl146 := congrArg List.length hd146
                rw [List.length_map] at hdl146
                refine WL.call (by kernel_rfl) rfl (by kernel_rfl) (by kernel_rfl) (ofL_spec (fs := fs146) (c := fs146.length) G146 (r146.mono (PH.le_refl _)) gg146 (by first | omega | (have q_ := o_mem145.ok.len; rw [List.length_map] at *; omega) | simp)) (Ret.elim ?_)
                rintro w147 h147 _ l147 G147 ⟨a147, c147, rfl, r147⟩
                refine WL.q (.slice ao2 fs2.length co2) (by kernel_rfl) rfl (by kernel_rfl) (by kernel_rfl) ?_
                refine WL.call (by kernel_rfl) rfl (by kernel_rfl) (by kernel_rfl) (sameF_spec (xs := fs146) (ys := fs2) (cx := c147) (cy := co2) G147 (r147.mono (PH.le_refl _)) (all_up @factG.mono l147 gg146) (f_row145.mono (l146.trans l147)) (all_up @factG.mono (l146.trans l147) fg_row145) (by first | omega | (have q_ := o_mem145.ok.len; rw [List.length_map] at *; omega) | simp) (fun f hf => Nat.le_trans (o_mem145.ok.ok _ (hd146 ▸ List.mem_map.2 ⟨f, hf, rfl⟩)).2.1 (by decide))) (Ret.elim ?_)
                rintro w148 h148 _ l148 G148 rfl
                refine WL.know 254 (.bool true) (x := (.bool (sameF fs146 fs2))) (by kernel_rfl) (congrArg Value.bool (by unfold sameF; exact decide_eq_true hd146)) ?_
                refine WL.q (.bool false) (by kernel_rfl) rfl (by kernel_rfl) (by kernel_rfl) ?_
                refine WL.q (.bool false) (by kernel_rfl) rfl (by kernel_rfl) (by kernel_rfl) ?_
                refine WL.q (.pointer (some ⟨p2, 0, none⟩)) (by kernel_rfl) rfl (by kernel_rfl) (by kernel_rfl) ?_
                refine WL.call (by kernel_rfl) rfl (by kernel_rfl) (by kernel_rfl) (lenA G148 (MemA.mono ((l146.trans l147).trans l148) o_mem145) (PH.le_refl _)) (Ret.elim ?_)
                rintro w149 h149 _ l149 G149 rfl
                refine WL.know 258 (.int .i64 (fs2.length : Int)) (x := (.int .i64 (((fs2.map dat).length : Nat) : Int))) (by kernel_rfl) (congrArg (Value.int .i64) (by rw [List.length_map])) ?_
                refine WL.q (.slice ao2 fs2.length co2) (by kernel_rfl) rfl (by kernel_rfl) (by kernel_rfl) ?_
                refine WL.q (.int .i64 (fs2.length : Int)) (by kernel_rfl) rfl (by kernel_rfl) (by kernel_rfl) ?_
                refine WL.q (.bool false) (by kernel_rfl) rfl (by kernel_rfl) (q_bool (x := (((fs2.length : Int) : Int) != (fs2.length : Int))) (by kernel_rfl) (bne_self_eq_false _)) ?_
                refine WL.q (.bool false) (by kernel_rfl) rfl (by kernel_rfl) (by kernel_rfl) ?_
                refine WL.q (.bool false) (by kernel_rfl) rfl (by kernel_rfl) (by kernel_rfl) ?_
                refine WL.q (.pointer (some ⟨p2, 0, none⟩)) (by kernel_rfl) rfl (by kernel_rfl) (by kernel_rfl) ?_
                refine WL.call (by kernel_rfl) rfl (by kernel_rfl) (by kernel_rfl) (nextA G149 (MemA.mono (((l146.trans l147).trans l148).trans l149) o_mem145) (PH.le_refl _)) (Ret.elim ?_)
                rintro w150 h150 _ l150 G150 rfl
                refine WL.q (.int .i64 nx2) (by kernel_rfl) rfl (by kernel_rfl) (by kernel_rfl) ?_
                refine WL.q (.bool false) (by kernel_rfl) rfl (by kernel_rfl) (q_bool (x := ((nx2 : Int) != nx2)) (by kernel_rfl) (bne_self_eq_false _)) ?_
                refine WL.q (.bool false) (by kernel_rfl) rfl (by kernel_rfl) (by kernel_rfl) ?_
                refine WL.nil ?_
                refine EX.then_code ?_
                refine CW.cond_f (by kernel_rfl) (by kernel_rfl) ?_
                refine CW.skip ?_
                refine EX.in_block ?_
                refine EX.then_code ?_
                refine CW.region ?_
                refine WL.q (.int .i64 (i : Int)) (by kernel_rfl) rfl (by kernel_rfl) (by kernel_rfl) ?_
                refine WL.q (.int .i64 ((i + 1 : Nat) : Int)) (by kernel_rfl) rfl (by kernel_rfl) (q_int (x := IntKind.i64.wrap ((i : Int) + 1)) (by kernel_rfl) (wrap_to (by omega) (by omega) (by omega))) ?_
                refine WL.q (.int .i64 ((i + 1 : Nat) : Int)) (by kernel_rfl) rfl (by kernel_rfl) (by kernel_rfl) ?_
                refine WL.nil ?_
                exact EX.then_loop ⟨i + 1, p2, fs2, ao2, co2, nx2⟩ ⟨(by kernel_rfl), (by kernel_rfl), (by kernel_rfl), (by kernel_rfl), (lk_int (x := ((i + 1 : Nat) : Int)) (by kernel_rfl) (by first | omega | (dsimp only; omega) | rfl | (dsimp only; rfl))), trivial⟩ ⟨h150, M0_145, (((((((((l6.trans l11).trans l18).trans l28).trans l145).trans l146).trans l147).trans l148).trans l149).trans l150), G150, (MemA.mono ((((l146.trans l147).trans l148).trans l149).trans l150) o_mem145), (f_row145.mono ((((l146.trans l147).trans l148).trans l149).trans l150)), (all_up @factG.mono ((((l146.trans l147).trans l148).trans l149).trans l150) fg_row145), (by first | omega | assumption | (dsimp only [List.length_nil, List.length_append, List.length_cons]; omega)), hfl2, hfc2, (by dsimp only; omega)⟩ (by first | omega | (dsimp only; omega))
    ·
      skip
      have d151 := of_decide_eq_false c7
      refine CW.exit ?_
      refine EX.exit_then ?_
      refine EX.exit_then ?_
      refine EX.exit_here ?_
      refine EX.then_code ?_
      refine CW.seq ?_
      refine CW.seq ?_
      refine CW.region ?_
      refine WL.q (.int .i64 0) (by kernel_rfl) rfl (by kernel_rfl) (by kernel_rfl) ?_
      refine WL.nil ?_
      refine EX.then_code ?_
      refine CW.block ?_
      obtain rfl : i = l.length := by omega
      refine CW.loop (β := Nat) (fun x_ => [(3, (.pointer (some ⟨p, 0, none⟩))), (4, (.slice ao fs.length co)), (5, (.int .i64 nx)), (21, (.int .i64 (x_ : Int)))]) (fun x_ w_ => ∃ h_, (PH.le h6 h_) ∧ (Wld K w_ h_ M0_6) ∧ ((x_ : Int) ≤ nx + 1)) (fun x_ => (nx + 1).toNat - x_) 0 ⟨(by kernel_rfl), (by kernel_rfl), (by kernel_rfl), (lk_int (x := 0) (by kernel_rfl) (by first | omega | (dsimp only; omega) | rfl | (dsimp only; rfl))), trivial⟩ ⟨h6, (PH.le_refl _), G6, (by first | omega | assumption | (dsimp only [List.length_nil, List.length_append, List.length_cons]; omega))⟩ ?_
      rintro q w152 ⟨h152, l152, G152, hq⟩
      try dsimp only at *
      refine CW.seq ?_
      refine CW.seq ?_
      refine CW.region ?_
      refine WL.q (.int .i64 (q : Int)) (by kernel_rfl) rfl (by kernel_rfl) (by kernel_rfl) ?_
      refine WL.q (.int .i64 nx) (by kernel_rfl) rfl (by kernel_rfl) (by kernel_rfl) ?_
      refine WL.q (.bool (decide ((q : Int) ≤ nx))) (by kernel_rfl) rfl (by kernel_rfl) (by kernel_rfl) ?_
      refine WL.nil ?_
      refine EX.then_code ?_
      refine CW.cond (decide ((q : Int) ≤ nx)) (by kernel_rfl) (by kernel_rfl) (fun c153 => ?_) (fun c153 => ?_)
      ·
        skip
        have d154 := of_decide_eq_true c153
        refine CW.skip ?_
        refine EX.then_code ?_
        refine CW.seq ?_
        refine CW.block ?_
        refine CW.seq ?_
        refine CW.region ?_
        refine WL.q (.pointer (some ⟨p, 0, none⟩)) (by kernel_rfl) rfl (by kernel_rfl) (by kernel_rfl) ?_
        refine WL.q (.int .i64 (q : Int)) (by kernel_rfl) rfl (by kernel_rfl) (by kernel_rfl) ?_
        refine WL.call (by kernel_rfl) rfl (by kernel_rfl) (by kernel_rfl) (getA G152 (MemA.mono l152 o_mem6) (PH.le_refl _) (q : Int)) (Ret.elim ?_)
        rintro w155 h155 _ l155 G155 ⟨f155, fd155, rfl, hg155, hn155⟩
        refine WL.q (.tuple #[(.agg #[(.int .i64 ((f155).id)), (.string ((f155).t)), (.slice ((f155).a) ((f155).vals.length) ((f155).c))]), (.bool fd155)]) (by kernel_rfl) rfl (by kernel_rfl) (by kernel_rfl) ?_
        refine WL.q (.agg #[(.int .i64 ((f155).id)), (.string ((f155).t)), (.slice ((f155).a) ((f155).vals.length) ((f155).c))]) (by kernel_rfl) rfl (by kernel_rfl) (by kernel_rfl) ?_
        refine WL.q (.bool fd155) (by kernel_rfl) rfl (by kernel_rfl) (by kernel_rfl) ?_
        refine WL.ex (by kernel_rfl) rfl (by kernel_rfl) (q_newB (ob := (.cells #[(.int .i64 0), (.string (ByteArray.mk #[])), (.slice none 0 0)] 55 (0, 0))) G155 (fun b_ => .pointer (some ⟨b_, 0, none⟩)) (fun u_ => by kernel_rfl)) ?_
        rintro _ w156 ⟨b156, M156, rfl, G156, B156, L156⟩
        refine WL.exu (by kernel_rfl) rfl (by kernel_rfl) (q_storeB (off := 0) (et := 55) (v := (.agg #[(.int .i64 ((f155).id)), (.string ((f155).t)), (.slice ((f155).a) ((f155).vals.length) ((f155).c))])) (vs := [(.int .i64 ((f155).id)), (.string ((f155).t)), (.slice ((f155).a) ((f155).vals.length) ((f155).c))]) #[(.int .i64 ((f155).id)), (.string ((f155).t)), (.slice ((f155).a) ((f155).vals.length) ((f155).c))] G156 B156 rfl (by kernel_rfl) (by kernel_rfl) (by kernel_rfl) (by kernel_rfl) (by simp [Value.oneCell']) (by simp) (by kernel_rfl)) ?_
        rintro w157 ⟨M157, G157, B157⟩
        obtain ⟨h158, l158, G158, hb158⟩ := B157.freeze G157
        refine WL.q (.bool fd155) (by kernel_rfl) rfl (by kernel_rfl) (by kernel_rfl) ?_
        refine WL.nil ?_
        refine EX.then_code ?_
        refine CW.seq ?_
        refine CW.region ?_
        rcases bool_cases fd155 with hfd | hfd
        ·
          skip
          subst hfd
          refine WL.q (.bool false) (by kernel_rfl) rfl (by kernel_rfl) (by kernel_rfl) ?_
          refine WL.nil ?_
          refine EX.then_code ?_
          refine CW.seq ?_
          refine CW.seq ?_
          refine CW.region ?_
          refine WL.q (.int .i64 0) (by kernel_rfl) rfl (by kernel_rfl) (by kernel_rfl) ?_
          refine WL.nil ?_
          refine EX.then_code ?_
          refine CW.block ?_
          refine CW.loop (β := Nat) (fun x_ => [(3, (.pointer (some ⟨p, 0, none⟩))), (4, (.slice ao fs.length co)), (5, (.int .i64 nx)), (21, (.int .i64 (q : Int))), (22, (.pointer (some ⟨b156, 0, none⟩))), (23, (.bool true)), (24, (.bool (inF f155 (q : Int) (fs.take x_)))), (25, (.int .i64 (x_ : Int)))]) (fun x_ w_ => ∃ h_, (PH.le h158 h_) ∧ (Wld K w_ h_ M0_6) ∧ (x_ ≤ fs.length)) (fun x_ => fs.length - x_) 0 ⟨(by kernel_rfl), (by kernel_rfl), (by kernel_rfl), (by kernel_rfl), (by kernel_rfl), (by kernel_rfl), (lk_val (x := (.bool false)) (by kernel_rfl) (rfl)), (lk_int (x := 0) (by kernel_rfl) (by first | omega | (dsimp only; omega) | rfl | (dsimp only; rfl))), trivial⟩ ⟨h158, (PH.le_refl _), G158, (by first | omega | assumption | (dsimp only [List.length_nil, List.length_append, List.length_cons]; omega))⟩ ?_
          rintro k w159 ⟨h159, l159, G159, hk7⟩
          try dsimp only at *
          refine CW.seq ?_
          refine CW.seq ?_
          refine CW.region ?_
          refine WL.q (.int .i64 (k : Int)) (by kernel_rfl) rfl (by kernel_rfl) (by kernel_rfl) ?_
          refine WL.q (.slice ao fs.length co) (by kernel_rfl) rfl (by kernel_rfl) (by kernel_rfl) ?_
          refine WL.q (.int .i64 (fs.length : Int)) (by kernel_rfl) rfl (by kernel_rfl) (by kernel_rfl) ?_
          refine WL.q (.bool (decide ((k : Int) < (fs.length : Int)))) (by kernel_rfl) rfl (by kernel_rfl) (by kernel_rfl) ?_
          refine WL.nil ?_
          refine EX.then_code ?_
          refine CW.cond (decide ((k : Int) < (fs.length : Int))) (by kernel_rfl) (by kernel_rfl) (fun c160 => ?_) (fun c160 => ?_)
          ·
            skip
            have d161 := of_decide_eq_true c160
            refine CW.skip ?_
            refine EX.then_code ?_
            refine CW.seq ?_
            refine CW.block ?_
            refine CW.draw (by kernel_rfl) [(6, fun w_ => RS (PH.all w_) factE ao fs), (10, fun w_ => PH.all w_ b156 = some (.cells #[(.int .i64 ((f155).id)), (.string ((f155).t)), (.slice ((f155).a) ((f155).vals.length) ((f155).c))] 55 (0, 0)))] ?_
            refine DW.take (T := fun _ => True) 0 (.bool (inF f155 (q : Int) (fs.take k))) rfl (by kernel_rfl) rfl (by kernel_rfl) (.inl fun _ => trivial) (by kernel_rfl) (Deaf.block (Deaf.thens (Deaf.thens (Deaf.block (Deaf.thens (Deaf.block (Deaf.thens (Deaf.thens (Deaf.block (Deaf.thens (Deaf.body RetM.not_panicked))))))))))) (fun w_ _ => (by kernel_rfl)) trivial ?_
            refine DW.take (T := fun _ => True) 1 (.bool (inF f155 (q : Int) (fs.take k))) rfl (by kernel_rfl) rfl (by kernel_rfl) (.inl fun _ => trivial) (by kernel_rfl) (Deaf.block (Deaf.thens (Deaf.thens (Deaf.block (Deaf.thens (Deaf.block (Deaf.thens (Deaf.thens (Deaf.block (Deaf.thens (Deaf.body RetM.not_panicked))))))))))) (fun w_ _ => (by kernel_rfl)) trivial ?_
            rcases bool_cases (inF f155 (q : Int) (fs.take k)) with c162 | c162
            ·
              skip
              refine DW.know 287 (.bool true) (x := .bool (inF f155 (q : Int) (fs.take k))) (by kernel_rfl) (congrArg Value.bool c162) ?_
              refine DW.skip 2 rfl (by kernel_rfl) rfl (by kernel_rfl) (by kernel_rfl) (Deaf.block (Deaf.thens (Deaf.thens (Deaf.block (Deaf.thens (Deaf.block (Deaf.thens (Deaf.thens (Deaf.block (Deaf.thens (Deaf.body RetM.not_panicked))))))))))) ?_
              refine DW.skip 3 rfl (by kernel_rfl) rfl (by kernel_rfl) (by kernel_rfl) (Deaf.block (Deaf.thens (Deaf.thens (Deaf.block (Deaf.thens (Deaf.block (Deaf.thens (Deaf.thens (Deaf.block (Deaf.thens (Deaf.body RetM.not_panicked))))))))))) ?_
              refine DW.skip 4 rfl (by kernel_rfl) rfl (by kernel_rfl) (by kernel_rfl) (Deaf.block (Deaf.thens (Deaf.thens (Deaf.block (Deaf.thens (Deaf.block (Deaf.thens (Deaf.thens (Deaf.block (Deaf.thens (Deaf.body RetM.not_panicked))))))))))) ?_
              refine DW.skip 5 rfl (by kernel_rfl) rfl (by kernel_rfl) (by kernel_rfl) (Deaf.block (Deaf.thens (Deaf.thens (Deaf.block (Deaf.thens (Deaf.block (Deaf.thens (Deaf.thens (Deaf.block (Deaf.thens (Deaf.body RetM.not_panicked))))))))))) ?_
              refine DW.skip 6 rfl (by kernel_rfl) rfl (by kernel_rfl) (by kernel_rfl) (Deaf.block (Deaf.thens (Deaf.thens (Deaf.block (Deaf.thens (Deaf.block (Deaf.thens (Deaf.thens (Deaf.block (Deaf.thens (Deaf.body RetM.not_panicked))))))))))) ?_
              refine DW.skip 7 rfl (by kernel_rfl) rfl (by kernel_rfl) (by kernel_rfl) (Deaf.block (Deaf.thens (Deaf.thens (Deaf.block (Deaf.thens (Deaf.block (Deaf.thens (Deaf.thens (Deaf.block (Deaf.thens (Deaf.body RetM.not_panicked))))))))))) ?_
              refine DW.skip 8 rfl (by kernel_rfl) rfl (by kernel_rfl) (by kernel_rfl) (Deaf.block (Deaf.thens (Deaf.thens (Deaf.block (Deaf.thens (Deaf.block (Deaf.thens (Deaf.thens (Deaf.block (Deaf.thens (Deaf.body RetM.not_panicked))))))))))) ?_
              refine DW.skip 9 rfl (by kernel_rfl) rfl (by kernel_rfl) (by kernel_rfl) (Deaf.block (Deaf.thens (Deaf.thens (Deaf.block (Deaf.thens (Deaf.block (Deaf.thens (Deaf.thens (Deaf.block (Deaf.thens (Deaf.body RetM.not_panicked))))))))))) ?_
              refine DW.skip 10 rfl (by kernel_rfl) rfl (by kernel_rfl) (by kernel_rfl) (Deaf.block (Deaf.thens (Deaf.thens (Deaf.block (Deaf.thens (Deaf.block (Deaf.thens (Deaf.thens (Deaf.block (Deaf.thens (Deaf.body RetM.not_panicked))))))))))) ?_
              refine DW.skip 11 rfl (by kernel_rfl) rfl (by kernel_rfl) (by kernel_rfl) (Deaf.block (Deaf.thens (Deaf.thens (Deaf.block (Deaf.thens (Deaf.block (Deaf.thens (Deaf.thens (Deaf.block (Deaf.thens (Deaf.body RetM.not_panicked))))))))))) ?_
              refine DW.skip 12 rfl (by kernel_rfl) rfl (by kernel_rfl) (by kernel_rfl) (Deaf.block (Deaf.thens (Deaf.thens (Deaf.block (Deaf.thens (Deaf.block (Deaf.thens (Deaf.thens (Deaf.block (Deaf.thens (Deaf.body RetM.not_panicked))))))))))) ?_
              refine DW.skip 13 rfl (by kernel_rfl) rfl (by kernel_rfl) (by kernel_rfl) (Deaf.block (Deaf.thens (Deaf.thens (Deaf.block (Deaf.thens (Deaf.block (Deaf.thens (Deaf.thens (Deaf.block (Deaf.thens (Deaf.body RetM.not_panicked))))))))))) ?_
              refine DW.skip 14 rfl (by kernel_rfl) rfl (by kernel_rfl) (by kernel_rfl) (Deaf.block (Deaf.thens (Deaf.thens (Deaf.block (Deaf.thens (Deaf.block (Deaf.thens (Deaf.thens (Deaf.block (Deaf.thens (Deaf.body RetM.not_panicked))))))))))) ?_
              refine DW.skip 15 rfl (by kernel_rfl) rfl (by kernel_rfl) (by kernel_rfl) (Deaf.block (Deaf.thens (Deaf.thens (Deaf.block (Deaf.thens (Deaf.block (Deaf.thens (Deaf.thens (Deaf.block (Deaf.thens (Deaf.body RetM.not_panicked))))))))))) ?_
              refine DW.skip 16 rfl (by kernel_rfl) rfl (by kernel_rfl) (by kernel_rfl) (Deaf.block (Deaf.thens (Deaf.thens (Deaf.block (Deaf.thens (Deaf.block (Deaf.thens (Deaf.thens (Deaf.block (Deaf.thens (Deaf.body RetM.not_panicked))))))))))) ?_
              refine DW.skip 17 rfl (by kernel_rfl) rfl (by kernel_rfl) (by kernel_rfl) (Deaf.block (Deaf.thens (Deaf.thens (Deaf.block (Deaf.thens (Deaf.block (Deaf.thens (Deaf.thens (Deaf.block (Deaf.thens (Deaf.body RetM.not_panicked))))))))))) ?_
              refine DW.skip 18 rfl (by kernel_rfl) rfl (by kernel_rfl) (by kernel_rfl) (Deaf.block (Deaf.thens (Deaf.thens (Deaf.block (Deaf.thens (Deaf.block (Deaf.thens (Deaf.thens (Deaf.block (Deaf.thens (Deaf.body RetM.not_panicked))))))))))) ?_
              refine DW.skip 19 rfl (by kernel_rfl) rfl (by kernel_rfl) (by kernel_rfl) (Deaf.block (Deaf.thens (Deaf.thens (Deaf.block (Deaf.thens (Deaf.block (Deaf.thens (Deaf.thens (Deaf.block (Deaf.thens (Deaf.body RetM.not_panicked))))))))))) ?_
              refine DW.take (T := fun _ => True) 20 (.bool true) rfl (by kernel_rfl) rfl (by kernel_rfl) (.inl fun _ => trivial) (by kernel_rfl) (Deaf.block (Deaf.thens (Deaf.thens (Deaf.block (Deaf.thens (Deaf.block (Deaf.thens (Deaf.thens (Deaf.block (Deaf.thens (Deaf.body RetM.not_panicked))))))))))) (fun w_ _ => (by kernel_rfl)) trivial ?_
              refine DW.take (T := fun _ => True) 21 (.bool true) rfl (by kernel_rfl) rfl (by kernel_rfl) (.inl fun _ => trivial) (by kernel_rfl) (Deaf.block (Deaf.thens (Deaf.thens (Deaf.block (Deaf.thens (Deaf.block (Deaf.thens (Deaf.thens (Deaf.block (Deaf.thens (Deaf.body RetM.not_panicked))))))))))) (fun w_ _ => (by kernel_rfl)) trivial ?_
              refine DW.done (by kernel_rfl) ?_
              refine EX.in_block ?_
              refine EX.then_code ?_
              refine CW.region ?_
              refine WL.q (.int .i64 (k : Int)) (by kernel_rfl) rfl (by kernel_rfl) (by kernel_rfl) ?_
              refine WL.q (.int .i64 ((k + 1 : Nat) : Int)) (by kernel_rfl) rfl (by kernel_rfl) (q_int (x := IntKind.i64.wrap ((k : Int) + 1)) (by kernel_rfl) (wrap_to (by omega) (by omega) (by omega))) ?_
              refine WL.q (.int .i64 ((k + 1 : Nat) : Int)) (by kernel_rfl) rfl (by kernel_rfl) (by kernel_rfl) ?_
              refine WL.nil ?_
              exact EX.then_loop (k + 1) ⟨(by kernel_rfl), (by kernel_rfl), (by kernel_rfl), (by kernel_rfl), (by kernel_rfl), (by kernel_rfl), (lk_val (x := (.bool true)) (by kernel_rfl) (congrArg Value.bool (by rw [inF_succ (by omega)]; simp only [c162, Bool.true_and, Bool.and_true, Bool.false_and, Bool.and_false, Bool.or_true, Bool.true_or, Bool.or_false, Bool.false_or]))), (lk_int (x := ((k + 1 : Nat) : Int)) (by kernel_rfl) (by first | omega | (dsimp only; omega) | rfl | (dsimp only; rfl))), trivial⟩ ⟨h159, l159, (G159.drew), (by first | omega | assumption | (dsimp only [List.length_nil, List.length_append, List.length_cons]; omega))⟩ (by first | omega | (dsimp only; omega))
            ·
              skip
              refine DW.know 287 (.bool false) (x := .bool (inF f155 (q : Int) (fs.take k))) (by kernel_rfl) (congrArg Value.bool c162) ?_
              refine DW.take (T := fun _ => True) 2 (.slice ao fs.length co) rfl (by kernel_rfl) rfl (by kernel_rfl) (.inl fun _ => trivial) (by kernel_rfl) (Deaf.block (Deaf.thens (Deaf.thens (Deaf.block (Deaf.thens (Deaf.block (Deaf.thens (Deaf.thens (Deaf.block (Deaf.thens (Deaf.body RetM.not_panicked))))))))))) (fun w_ _ => (by kernel_rfl)) trivial ?_
              refine DW.take (T := fun _ => True) 3 (.int .i64 (k : Int)) rfl (by kernel_rfl) rfl (by kernel_rfl) (.inl fun _ => trivial) (by kernel_rfl) (Deaf.block (Deaf.thens (Deaf.thens (Deaf.block (Deaf.thens (Deaf.block (Deaf.thens (Deaf.thens (Deaf.block (Deaf.thens (Deaf.body RetM.not_panicked))))))))))) (fun w_ _ => (by kernel_rfl)) trivial ?_
              refine DW.take (T := fun _ => True) 4 (eptr ao (k * factE.sz)) rfl (by kernel_rfl) rfl (by kernel_rfl) (.inl fun _ => trivial) (by kernel_rfl) (Deaf.block (Deaf.thens (Deaf.thens (Deaf.block (Deaf.thens (Deaf.block (Deaf.thens (Deaf.thens (Deaf.block (Deaf.thens (Deaf.body RetM.not_panicked))))))))))) (fun w_ _ => (q_indexAddr (i := k) (E := factE) (xs := fs) (e := 43) (c := co) (k := .i64) (m := fs.length) rfl rfl (by kernel_rfl) (by kernel_rfl) (by kernel_rfl) (f_row6.mono ((((l152.trans l155).trans l158).trans l159).trans (G159.drew).imm)) (by omega))) trivial ?_
              refine DW.take (T := fun _ => True) 5 (eptr ao (k * factE.sz + 0)) rfl (by kernel_rfl) rfl (by kernel_rfl) (.inl fun _ => trivial) (by kernel_rfl) (Deaf.block (Deaf.thens (Deaf.thens (Deaf.block (Deaf.thens (Deaf.block (Deaf.thens (Deaf.thens (Deaf.block (Deaf.thens (Deaf.body RetM.not_panicked))))))))))) (fun w_ _ => (q_fieldAddr_e (i := k) (k := k * factE.sz) (off := 0) rfl (by kernel_rfl) (by kernel_rfl) (f_row6.mono ((((l152.trans l155).trans l158).trans l159).trans (G159.drew).imm)) (by omega))) trivial ?_
              refine DW.take (T := fun w_ => RS (PH.all w_) factE ao fs) 6 (.int .i64 (((fs.getD k factE.dflt)).id)) rfl (by kernel_rfl) rfl (by kernel_rfl) (.inr (by first | exact .head _ | exact .tail _ (.head _) | exact .tail _ (.tail _ (.head _)) | exact .tail _ (.tail _ (.tail _ (.head _))) | simp)) (by kernel_rfl) (Deaf.block (Deaf.thens (Deaf.thens (Deaf.block (Deaf.thens (Deaf.block (Deaf.thens (Deaf.thens (Deaf.block (Deaf.thens (Deaf.body RetM.not_panicked))))))))))) (fun w_ T_ => (q_load_e (i := k) (k := 0) (E := factE) rfl (by kernel_rfl) (by kernel_rfl) T_ (by omega) (by decide) (by kernel_rfl))) (f_row6.mono ((((l152.trans l155).trans l158).trans l159).trans (G159.drew).imm)) ?_
              refine DW.take (T := fun _ => True) 7 (.int .i64 (q : Int)) rfl (by kernel_rfl) rfl (by kernel_rfl) (.inl fun _ => trivial) (by kernel_rfl) (Deaf.block (Deaf.thens (Deaf.thens (Deaf.block (Deaf.thens (Deaf.block (Deaf.thens (Deaf.thens (Deaf.block (Deaf.thens (Deaf.body RetM.not_panicked))))))))))) (fun w_ _ => (by kernel_rfl)) trivial ?_
              refine DW.take (T := fun _ => True) 8 (.bool ((((fs.getD k factE.dflt)).id : Int) == (q : Int))) rfl (by kernel_rfl) rfl (by kernel_rfl) (.inl fun _ => trivial) (by kernel_rfl) (Deaf.block (Deaf.thens (Deaf.thens (Deaf.block (Deaf.thens (Deaf.block (Deaf.thens (Deaf.thens (Deaf.block (Deaf.thens (Deaf.body RetM.not_panicked))))))))))) (fun w_ _ => (by kernel_rfl)) trivial ?_
              refine DW.take (T := fun _ => True) 9 (.bool ((((fs.getD k factE.dflt)).id : Int) == (q : Int))) rfl (by kernel_rfl) rfl (by kernel_rfl) (.inl fun _ => trivial) (by kernel_rfl) (Deaf.block (Deaf.thens (Deaf.thens (Deaf.block (Deaf.thens (Deaf.block (Deaf.thens (Deaf.thens (Deaf.block (Deaf.thens (Deaf.body RetM.not_panicked))))))))))) (fun w_ _ => (by kernel_rfl)) trivial ?_
              rcases bool_cases ((((fs.getD k factE.dflt)).id : Int) == (q : Int)) with c165 | c165
              ·
                skip
                have d166 := eq_of_beq c165
                refine DW.know 295 (.bool true) (x := .bool ((((fs.getD k factE.dflt)).id : Int) == (q : Int))) (by kernel_rfl) (congrArg Value.bool c165) ?_
                refine DW.take (T := fun w_ => PH.all w_ b156 = some (.cells #[(.int .i64 ((f155).id)), (.string ((f155).t)), (.slice ((f155).a) ((f155).vals.length) ((f155).c))] 55 (0, 0))) 10 (.agg #[(.int .i64 ((f155).id)), (.string ((f155).t)), (.slice ((f155).a) ((f155).vals.length) ((f155).c))]) rfl (by kernel_rfl) rfl (by kernel_rfl) (.inr (by first | exact .head _ | exact .tail _ (.head _) | exact .tail _ (.tail _ (.head _)) | exact .tail _ (.tail _ (.tail _ (.head _))) | simp)) (by kernel_rfl) (Deaf.block (Deaf.thens (Deaf.thens (Deaf.block (Deaf.thens (Deaf.block (Deaf.thens (Deaf.thens (Deaf.block (Deaf.thens (Deaf.body RetM.not_panicked))))))))))) (fun w_ T_ => (q_loadAgg (off := 0) (vs := [(.int .i64 ((f155).id)), (.string ((f155).t)), (.slice ((f155).a) ((f155).vals.length) ((f155).c))]) rfl (by kernel_rfl) (by kernel_rfl) T_ (agg_at (by kernel_rfl)))) ((G159.drew).imm _ _ (l159 _ _ hb158)) ?_
                refine DW.take (T := fun _ => True) 13 (.slice ao fs.length co) rfl (by kernel_rfl) rfl (by kernel_rfl) (.inl fun _ => trivial) (by kernel_rfl) (Deaf.block (Deaf.thens (Deaf.thens (Deaf.block (Deaf.thens (Deaf.block (Deaf.thens (Deaf.thens (Deaf.block (Deaf.thens (Deaf.body RetM.not_panicked))))))))))) (fun w_ _ => (by kernel_rfl)) trivial ?_
                refine DW.take (T := fun _ => True) 14 (.int .i64 (k : Int)) rfl (by kernel_rfl) rfl (by kernel_rfl) (.inl fun _ => trivial) (by kernel_rfl) (Deaf.block (Deaf.thens (Deaf.thens (Deaf.block (Deaf.thens (Deaf.block (Deaf.thens (Deaf.thens (Deaf.block (Deaf.thens (Deaf.body RetM.not_panicked))))))))))) (fun w_ _ => (by kernel_rfl)) trivial ?_
                refine DW.take (T := fun _ => True) 15 (.int .i64 (k : Int)) rfl (by kernel_rfl) rfl (by kernel_rfl) (.inl fun _ => trivial) (by kernel_rfl) (Deaf.block (Deaf.thens (Deaf.thens (Deaf.block (Deaf.thens (Deaf.block (Deaf.thens (Deaf.thens (Deaf.block (Deaf.thens (Deaf.body RetM.not_panicked))))))))))) (fun w_ _ => (by kernel_rfl)) trivial ?_
                refine DW.take (T := fun _ => True) 16 (.int .i64 ((k + 1 : Nat) : Int)) rfl (by kernel_rfl) rfl (by kernel_rfl) (.inl fun _ => trivial) (by kernel_rfl) (Deaf.block (Deaf.thens (Deaf.thens (Deaf.block (Deaf.thens (Deaf.block (Deaf.thens (Deaf.thens (Deaf.block (Deaf.thens (Deaf.body RetM.not_panicked))))))))))) (fun w_ _ => (q_int (x := IntKind.i64.wrap ((k : Int) + 1)) (by kernel_rfl) (wrap_to (by omega) (by omega) (by omega)))) trivial ?_
                refine DW.take (T := fun _ => True) 17 (.slice (aft ao co k 3) (([(fs.getD k factE.dflt)]).length) (co - k)) rfl (by kernel_rfl) rfl (by kernel_rfl) (.inl fun _ => trivial) (by kernel_rfl) (Deaf.block (Deaf.thens (Deaf.thens (Deaf.block (Deaf.thens (Deaf.block (Deaf.thens (Deaf.thens (Deaf.block (Deaf.thens (Deaf.body RetM.not_panicked))))))))))) (fun w_ _ => (q_val (q_lohi (e := 43) (sz := 3) (len := fs.length) (cap := co) (lo := k) (hi := (k + 1)) (k := .i64) (k' := .i64) rfl (by kernel_rfl) (by kernel_rfl) (by kernel_rfl) (by kernel_rfl) (by omega) (Nat.le_trans (show (k + 1) ≤ fs.length by omega) (by omega))) (by rw [show (k + 1) - k = 1 by omega]; rfl))) trivial ?_
                refine DW.only 11 (by kernel_rfl) ?_
                refine DOp.ex rfl (by kernel_rfl) rfl (by kernel_rfl) (q_newF (ob := (.cells #[(.int .i64 ((f155).id)), (.string ((f155).t)), (.slice ((f155).a) ((f155).vals.length) ((f155).c))] 55 (0, 0))) (G159.drew) (fun b_ => .slice (some ⟨b_, 0, none⟩) 1 1) (fun u_ => by kernel_rfl)) (fun v_ w167 p_ => by obtain ⟨b167, h167, rfl, l167, G167, hb167, L167⟩ := p_; exact ⟨.inr (fun _ => (f_row6.mono (((((l152.trans l155).trans l158).trans l159).trans l167).trans G167.imm))), .inl (by kernel_rfl), trivial⟩) ?_
                rintro _ w167 ⟨b167, h167, rfl, l167, G167, hb167, L167⟩
                have r168 : RS h167 factE (some ⟨b167, 0, none⟩) [(FactD.mk ((f155).id) ((f155).t) ((f155).a) ((f155).vals) ((f155).c))] := RS.blk hb167 (by kernel_rfl)
                have g168 : ∀ e_ ∈ [(FactD.mk ((f155).id) ((f155).t) ((f155).a) ((f155).vals) ((f155).c))], factG h167 e_ := (all_one (show factG h167 (FactD.mk ((f155).id) ((f155).t) ((f155).a) ((f155).vals) ((f155).c)) from ((hg155 rfl).2.2.mono ((l158.trans l159).trans l167))))
                refine DW.only 12 (by kernel_rfl) ?_
                refine DOp.call rfl (by kernel_rfl) rfl (by kernel_rfl) (by kernel_rfl) (ofL_spec (fs := ([(FactD.mk ((f155).id) ((f155).t) ((f155).a) ((f155).vals) ((f155).c))])) (c := 1) G167 (r168.mono (PH.le_refl _)) g168 (by first | omega | (have q_ := o_mem6.ok.len; rw [List.length_map] at *; omega) | simp)) (Ret.elimD (fun w169 h169 l169 G169 => ⟨.inr (fun _ => (f_row6.mono ((((((l152.trans l155).trans l158).trans l159).trans l167).trans l169).trans G169.imm))), .inr (fun _ => (G169.imm _ _ (((l159.trans l167).trans l169) _ _ hb158))), trivial⟩) ?_)
                rintro w169 h169 _ l169 G169 ⟨a169, c169, rfl, r169⟩
                refine DW.only 18 (by kernel_rfl) ?_
                refine DOp.call rfl (by kernel_rfl) rfl (by kernel_rfl) (by kernel_rfl) (sameF_spec (xs := ([(FactD.mk ((f155).id) ((f155).t) ((f155).a) ((f155).vals) ((f155).c))])) (ys := ([(fs.getD k factE.dflt)])) (cx := c169) (cy := (co - k)) G169 (r169.mono (PH.le_refl _)) (all_up @factG.mono l169 g168) ((f_row6.sub (cap := co) (show k < fs.length by omega) (by omega)).mono (((((l152.trans l155).trans l158).trans l159).trans l167).trans l169)) (all_up @factG.mono (((((l152.trans l155).trans l158).trans l159).trans l167).trans l169) (all_one (fg_row6 _ (getD_mem (show k < fs.length by omega))))) (by first | omega | (have q_ := o_mem6.ok.len; rw [List.length_map] at *; omega) | simp) (fun f hf => by rw [List.mem_singleton] at hf; rw [hf]; exact Nat.le_trans (o_mem6.ok.ok _ (hg155 rfl).1).2.1 (by decide))) (Ret.elimD (fun w170 h170 l170 G170 => ⟨.inr (fun _ => (f_row6.mono (((((((l152.trans l155).trans l158).trans l159).trans l167).trans l169).trans l170).trans G170.imm))), .inr (fun _ => (G170.imm _ _ ((((l159.trans l167).trans l169).trans l170) _ _ hb158))), trivial⟩) ?_)
                rintro w170 h170 _ l170 G170 rfl
                refine DW.take (T := fun _ => True) 19 (.bool (sameF ([(FactD.mk ((f155).id) ((f155).t) ((f155).a) ((f155).vals) ((f155).c))]) ([(fs.getD k factE.dflt)]))) rfl (by kernel_rfl) rfl (by kernel_rfl) (.inl fun _ => trivial) (by kernel_rfl) (Deaf.block (Deaf.thens (Deaf.thens (Deaf.block (Deaf.thens (Deaf.block (Deaf.thens (Deaf.thens (Deaf.block (Deaf.thens (Deaf.body RetM.not_panicked))))))))))) (fun w_ _ => (by kernel_rfl)) trivial ?_
                refine DW.take (T := fun _ => True) 20 (.bool (sameF ([(FactD.mk ((f155).id) ((f155).t) ((f155).a) ((f155).vals) ((f155).c))]) ([(fs.getD k factE.dflt)]))) rfl (by kernel_rfl) rfl (by kernel_rfl) (.inl fun _ => trivial) (by kernel_rfl) (Deaf.block (Deaf.thens (Deaf.thens (Deaf.block (Deaf.thens (Deaf.block (Deaf.thens (Deaf.thens (Deaf.block (Deaf.thens (Deaf.body RetM.not_panicked))))))))))) (fun w_ _ => (by kernel_rfl)) trivial ?_
                refine DW.take (T := fun _ => True) 21 (.bool (sameF ([(FactD.mk ((f155).id) ((f155).t) ((f155).a) ((f155).vals) ((f155).c))]) ([(fs.getD k factE.dflt)]))) rfl (by kernel_rfl) rfl (by kernel_rfl) (.inl fun _ => trivial) (by kernel_rfl) (Deaf.block (Deaf.thens (Deaf.thens (Deaf.block (Deaf.thens (Deaf.block (Deaf.thens (Deaf.thens (Deaf.block (Deaf.thens (Deaf.body RetM.not_panicked))))))))))) (fun w_ _ => (by kernel_rfl)) trivial ?_
                refine DW.done (by kernel_rfl) ?_
                refine EX.in_block ?_
                refine EX.then_code ?_
                refine CW.region ?_
                refine WL.q (.int .i64 (k : Int)) (by kernel_rfl) rfl (by kernel_rfl) (by kernel_rfl) ?_
                refine WL.q (.int .i64 ((k + 1 : Nat) : Int)) (by kernel_rfl) rfl (by kernel_rfl) (q_int (x := IntKind.i64.wrap ((k : Int) + 1)) (by kernel_rfl) (wrap_to (by omega) (by omega) (by omega))) ?_
                refine WL.q (.int .i64 ((k + 1 : Nat) : Int)) (by kernel_rfl) rfl (by kernel_rfl) (by kernel_rfl) ?_
                refine WL.nil ?_
                exact EX.then_loop (k + 1) ⟨(by kernel_rfl), (by kernel_rfl), (by kernel_rfl), (by kernel_rfl), (by kernel_rfl), (by kernel_rfl), (lk_val (x := (.bool (sameF ([(FactD.mk ((f155).id) ((f155).t) ((f155).a) ((f155).vals) ((f155).c))]) ([(fs.getD k factE.dflt)])))) (by kernel_rfl) (congrArg Value.bool (by rw [inF_succ (by omega)]; simp only [c162, c165, Bool.true_and, Bool.and_true, Bool.false_and, Bool.and_false, Bool.or_true, Bool.true_or, Bool.or_false, Bool.false_or]))), (lk_int (x := ((k + 1 : Nat) : Int)) (by kernel_rfl) (by first | omega | (dsimp only; omega) | rfl | (dsimp only; rfl))), trivial⟩ ⟨h170, (((l159.trans l167).trans l169).trans l170), G170, (by first | omega | assumption | (dsimp only [List.length_nil, List.length_append, List.length_cons]; omega))⟩ (by first | omega | (dsimp only; omega))
              ·
                skip
                have d171 := ne_of_beq_false c165
                refine DW.know 295 (.bool false) (x := .bool ((((fs.getD k factE.dflt)).id : Int) == (q : Int))) (by kernel_rfl) (congrArg Value.bool c165) ?_
                refine DW.skip 10 rfl (by kernel_rfl) rfl (by kernel_rfl) (by kernel_rfl) (Deaf.block (Deaf.thens (Deaf.thens (Deaf.block (Deaf.thens (Deaf.block (Deaf.thens (Deaf.thens (Deaf.block (Deaf.thens (Deaf.body RetM.not_panicked))))))))))) ?_
                refine DW.skip 11 rfl (by kernel_rfl) rfl (by kernel_rfl) (by kernel_rfl) (Deaf.block (Deaf.thens (Deaf.thens (Deaf.block (Deaf.thens (Deaf.block (Deaf.thens (Deaf.thens (Deaf.block (Deaf.thens (Deaf.body RetM.not_panicked))))))))))) ?_
                refine DW.skip 12 rfl (by kernel_rfl) rfl (by kernel_rfl) (by kernel_rfl) (Deaf.block (Deaf.thens (Deaf.thens (Deaf.block (Deaf.thens (Deaf.block (Deaf.thens (Deaf.thens (Deaf.block (Deaf.thens (Deaf.body RetM.not_panicked))))))))))) ?_
                refine DW.skip 13 rfl (by kernel_rfl) rfl (by kernel_rfl) (by kernel_rfl) (Deaf.block (Deaf.thens (Deaf.thens (Deaf.block (Deaf.thens (Deaf.block (Deaf.thens (Deaf.thens (Deaf.block (Deaf.thens (Deaf.body RetM.not_panicked))))))))))) ?_
                refine DW.skip 14 rfl (by kernel_rfl) rfl (by kernel_rfl) (by kernel_rfl) (Deaf.block (Deaf.thens (Deaf.thens (Deaf.block (Deaf.thens (Deaf.block (Deaf.thens (Deaf.thens (Deaf.block (Deaf.thens (Deaf.body RetM.not_panicked))))))))))) ?_
                refine DW.skip 15 rfl (by kernel_rfl) rfl (by kernel_rfl) (by kernel_rfl) (Deaf.block (Deaf.thens (Deaf.thens (Deaf.block (Deaf.thens (Deaf.block (Deaf.thens (Deaf.thens (Deaf.block (Deaf.thens (Deaf.body RetM.not_panicked))))))))))) ?_
                refine DW.skip 16 rfl (by kernel_rfl) rfl (by kernel_rfl) (by kernel_rfl) (Deaf.block (Deaf.thens (Deaf.thens (Deaf.block (Deaf.thens (Deaf.block (Deaf.thens (Deaf.thens (Deaf.block (Deaf.thens (Deaf.body RetM.not_panicked))))))))))) ?_
                refine DW.skip 17 rfl (by kernel_rfl) rfl (by kernel_rfl) (by kernel_rfl) (Deaf.block (Deaf.thens (Deaf.thens (Deaf.block (Deaf.thens (Deaf.block (Deaf.thens (Deaf.thens (Deaf.block (Deaf.thens (Deaf.body RetM.not_panicked))))))))))) ?_
                refine DW.skip 18 rfl (by kernel_rfl) rfl (by kernel_rfl) (by kernel_rfl) (Deaf.block (Deaf.thens (Deaf.thens (Deaf.block (Deaf.thens (Deaf.block (Deaf.thens (Deaf.thens (Deaf.block (Deaf.thens (Deaf.body RetM.not_panicked))))))))))) ?_
                refine DW.take (T := fun _ => True) 19 (.bool false) rfl (by kernel_rfl) rfl (by kernel_rfl) (.inl fun _ => trivial) (by kernel_rfl) (Deaf.block (Deaf.thens (Deaf.thens (Deaf.block (Deaf.thens (Deaf.block (Deaf.thens (Deaf.thens (Deaf.block (Deaf.thens (Deaf.body RetM.not_panicked))))))))))) (fun w_ _ => (by kernel_rfl)) trivial ?_
                refine DW.take (T := fun _ => True) 20 (.bool false) rfl (by kernel_rfl) rfl (by kernel_rfl) (.inl fun _ => trivial) (by kernel_rfl) (Deaf.block (Deaf.thens (Deaf.thens (Deaf.block (Deaf.thens (Deaf.block (Deaf.thens (Deaf.thens (Deaf.block (Deaf.thens (Deaf.body RetM.not_panicked))))))))))) (fun w_ _ => (by kernel_rfl)) trivial ?_
                refine DW.take (T := fun _ => True) 21 (.bool false) rfl (by kernel_rfl) rfl (by kernel_rfl) (.inl fun _ => trivial) (by kernel_rfl) (Deaf.block (Deaf.thens (Deaf.thens (Deaf.block (Deaf.thens (Deaf.block (Deaf.thens (Deaf.thens (Deaf.block (Deaf.thens (Deaf.body RetM.not_panicked))))))))))) (fun w_ _ => (by kernel_rfl)) trivial ?_
                refine DW.done (by kernel_rfl) ?_
                refine EX.in_block ?_
                refine EX.then_code ?_
                refine CW.region ?_
                refine WL.q (.int .i64 (k : Int)) (by kernel_rfl) rfl (by kernel_rfl) (by kernel_rfl) ?_
                refine WL.q (.int .i64 ((k + 1 : Nat) : Int)) (by kernel_rfl) rfl (by kernel_rfl) (q_int (x := IntKind.i64.wrap ((k : Int) + 1)) (by kernel_rfl) (wrap_to (by omega) (by omega) (by omega))) ?_
                refine WL.q (.int .i64 ((k + 1 : Nat) : Int)) (by kernel_rfl) rfl (by kernel_rfl) (by kernel_rfl) ?_
                refine WL.nil ?_
                exact EX.then_loop (k + 1) ⟨(by kernel_rfl), (by kernel_rfl), (by kernel_rfl), (by kernel_rfl), (by kernel_rfl), (by kernel_rfl), (lk_val (x := (.bool false)) (by kernel_rfl) (congrArg Value.bool (by rw [inF_succ (by omega)]; simp only [c162, c165, Bool.true_and, Bool.and_true, Bool.false_and, Bool.and_false, Bool.or_true, Bool.true_or, Bool.or_false, Bool.false_or]))), (lk_int (x := ((k + 1 : Nat) : Int)) (by kernel_rfl) (by first | omega | (dsimp only; omega) | rfl | (dsimp only; rfl))), trivial⟩ ⟨h159, l159, (G159.drew), (by first | omega | assumption | (dsimp only [List.length_nil, List.length_append, List.length_cons]; omega))⟩ (by first | omega | (dsimp only; omega))
          ·
            skip
            have d172 := of_decide_eq_false c160
            refine CW.exit ?_
            refine EX.exit_then ?_
            refine EX.exit_then ?_
            refine EX.exit_here ?_
            refine EX.then_code ?_
            refine CW.seq ?_
            refine CW.region ?_
            refine WL.q (.bool true) (by kernel_rfl) rfl (by kernel_rfl) (by kernel_rfl) ?_
            refine WL.q (.bool (inF f155 (q : Int) (fs.take k))) (by kernel_rfl) rfl (by kernel_rfl) (by kernel_rfl) ?_
            refine WL.know 308 (.bool true) (x := (.bool (inF f155 (q : Int) (fs.take k)))) (by kernel_rfl) (congrArg Value.bool (by rw [show k = fs.length by omega, List.take_length]; exact inF_yes (hg155 rfl).1 (hg155 rfl).2.1)) ?_
            refine WL.q (.bool false) (by kernel_rfl) rfl (by kernel_rfl) (by kernel_rfl) ?_
            refine WL.nil ?_
            refine EX.then_code ?_
            refine CW.cond_f (by kernel_rfl) (by kernel_rfl) ?_
            refine CW.skip ?_
            refine EX.in_block ?_
            refine EX.then_code ?_
            refine CW.region ?_
            refine WL.q (.int .i64 (q : Int)) (by kernel_rfl) rfl (by kernel_rfl) (by kernel_rfl) ?_
            refine WL.q (.int .i64 ((q + 1 : Nat) : Int)) (by kernel_rfl) rfl (by kernel_rfl) (q_int (x := IntKind.i64.wrap ((q : Int) + 1)) (by kernel_rfl) (wrap_to (by omega) (by omega) (by omega))) ?_
            refine WL.q (.int .i64 ((q + 1 : Nat) : Int)) (by kernel_rfl) rfl (by kernel_rfl) (by kernel_rfl) ?_
            refine WL.nil ?_
            exact EX.then_loop (q + 1) ⟨(by kernel_rfl), (by kernel_rfl), (by kernel_rfl), (lk_int (x := ((q + 1 : Nat) : Int)) (by kernel_rfl) (by first | omega | (dsimp only; omega) | rfl | (dsimp only; rfl))), trivial⟩ ⟨h159, (((l152.trans l155).trans l158).trans l159), G159, (by first | omega | assumption | (dsimp only [List.length_nil, List.length_append, List.length_cons]; omega))⟩ (by first | omega | (dsimp only; omega))
        ·
          skip
          subst hfd
          refine WL.q (.bool false) (by kernel_rfl) rfl (by kernel_rfl) (by kernel_rfl) ?_
          refine WL.nil ?_
          refine EX.then_code ?_
          refine CW.seq ?_
          refine CW.seq ?_
          refine CW.region ?_
          refine WL.q (.int .i64 0) (by kernel_rfl) rfl (by kernel_rfl) (by kernel_rfl) ?_
          refine WL.nil ?_
          refine EX.then_code ?_
          refine CW.block ?_
          refine CW.loop (β := Nat) (fun x_ => [(3, (.pointer (some ⟨p, 0, none⟩))), (4, (.slice ao fs.length co)), (5, (.int .i64 nx)), (21, (.int .i64 (q : Int))), (22, (.pointer (some ⟨b156, 0, none⟩))), (23, (.bool false)), (24, (.bool (inF f155 (q : Int) (fs.take x_)))), (25, (.int .i64 (x_ : Int)))]) (fun x_ w_ => ∃ h_, (PH.le h158 h_) ∧ (Wld K w_ h_ M0_6) ∧ (x_ ≤ fs.length)) (fun x_ => fs.length - x_) 0 ⟨(by kernel_rfl), (by kernel_rfl), (by kernel_rfl), (by kernel_rfl), (by kernel_rfl), (by kernel_rfl), (lk_val (x := (.bool false)) (by kernel_rfl) (rfl)), (lk_int (x := 0) (by kernel_rfl) (by first | omega | (dsimp only; omega) | rfl | (dsimp only; rfl))), trivial⟩ ⟨h158, (PH.le_refl _), G158, (by first | omega | assumption | (dsimp only [List.length_nil, List.length_append, List.length_cons]; omega))⟩ ?_
          rintro k w173 ⟨h173, l173, G173, hk7⟩
          try dsimp only at *
          refine CW.seq ?_
          refine CW.seq ?_
          refine CW.region ?_
          refine WL.q (.int .i64 (k : Int)) (by kernel_rfl) rfl (by kernel_rfl) (by kernel_rfl) ?_
          refine WL.q (.slice ao fs.length co) (by kernel_rfl) rfl (by kernel_rfl) (by kernel_rfl) ?_
          refine WL.q (.int .i64 (fs.length : Int)) (by kernel_rfl) rfl (by kernel_rfl) (by kernel_rfl) ?_
          refine WL.q (.bool (decide ((k : Int) < (fs.length : Int)))) (by kernel_rfl) rfl (by kernel_rfl) (by kernel_rfl) ?_
          refine WL.nil ?_
          refine EX.then_code ?_
          refine CW.cond (decide ((k : Int) < (fs.length : Int))) (by kernel_rfl) (by kernel_rfl) (fun c174 => ?_) (fun c174 => ?_)
          ·
            skip
            have d175 := of_decide_eq_true c174
            refine CW.skip ?_
            refine EX.then_code ?_
            refine CW.seq ?_
            refine CW.block ?_
            refine CW.draw (by kernel_rfl) [(6, fun w_ => RS (PH.all w_) factE ao fs)] ?_
            refine DW.take (T := fun _ => True) 0 (.bool (inF f155 (q : Int) (fs.take k))) rfl (by kernel_rfl) rfl (by kernel_rfl) (.inl fun _ => trivial) (by kernel_rfl) (Deaf.block (Deaf.thens (Deaf.thens (Deaf.block (Deaf.thens (Deaf.block (Deaf.thens (Deaf.thens (Deaf.block (Deaf.thens (Deaf.body RetM.not_panicked))))))))))) (fun w_ _ => (by kernel_rfl)) trivial ?_
            refine DW.take (T := fun _ => True) 1 (.bool (inF f155 (q : Int) (fs.take k))) rfl (by kernel_rfl) rfl (by kernel_rfl) (.inl fun _ => trivial) (by kernel_rfl) (Deaf.block (Deaf.thens (Deaf.thens (Deaf.block (Deaf.thens (Deaf.block (Deaf.thens (Deaf.thens (Deaf.block (Deaf.thens (Deaf.body RetM.not_panicked))))))))))) (fun w_ _ => (by kernel_rfl)) trivial ?_
            rcases bool_cases (inF f155 (q : Int) (fs.take k)) with c176 | c176
            ·
              skip
              refine DW.know 287 (.bool true) (x := .bool (inF f155 (q : Int) (fs.take k))) (by kernel_rfl) (congrArg Value.bool c176) ?_
              refine DW.skip 2 rfl (by kernel_rfl) rfl (by kernel_rfl) (by kernel_rfl) (Deaf.block (Deaf.thens (Deaf.thens (Deaf.block (Deaf.thens (Deaf.block (Deaf.thens (Deaf.thens (Deaf.block (Deaf.thens (Deaf.body RetM.not_panicked))))))))))) ?_
              refine DW.skip 3 rfl (by kernel_rfl) rfl (by kernel_rfl) (by kernel_rfl) (Deaf.block (Deaf.thens (Deaf.thens (Deaf.block (Deaf.thens (Deaf.block (Deaf.thens (Deaf.thens (Deaf.block (Deaf.thens (Deaf.body RetM.not_panicked))))))))))) ?_
              refine DW.skip 4 rfl (by kernel_rfl) rfl (by kernel_rfl) (by kernel_rfl) (Deaf.block (Deaf.thens (Deaf.thens (Deaf.block (Deaf.thens (Deaf.block (Deaf.thens (Deaf.thens (Deaf.block (Deaf.thens (Deaf.body RetM.not_panicked))))))))))) ?_
              refine DW.skip 5 rfl (by kernel_rfl) rfl (by kernel_rfl) (by kernel_rfl) (Deaf.block (Deaf.thens (Deaf.thens (Deaf.block (Deaf.thens (Deaf.block (Deaf.thens (Deaf.thens (Deaf.block (Deaf.thens (Deaf.body RetM.not_panicked))))))))))) ?_
              refine DW.skip 6 rfl (by kernel_rfl) rfl (by kernel_rfl) (by kernel_rfl) (Deaf.block (Deaf.thens (Deaf.thens (Deaf.block (Deaf.thens (Deaf.block (Deaf.thens (Deaf.thens (Deaf.block (Deaf.thens (Deaf.body RetM.not_panicked))))))))))) ?_
              refine DW.skip 7 rfl (by kernel_rfl) rfl (by kernel_rfl) (by kernel_rfl) (Deaf.block (Deaf.thens (Deaf.thens (Deaf.block (Deaf.thens (Deaf.block (Deaf.thens (Deaf.thens (Deaf.block (Deaf.thens (Deaf.body RetM.not_panicked))))))))))) ?_
              refine DW.skip 8 rfl (by kernel_rfl) rfl (by kernel_rfl) (by kernel_rfl) (Deaf.block (Deaf.thens (Deaf.thens (Deaf.block (Deaf.thens (Deaf.block (Deaf.thens (Deaf.thens (Deaf.block (Deaf.thens (Deaf.body RetM.not_panicked))))))))))) ?_
              refine DW.skip 9 rfl (by kernel_rfl) rfl (by kernel_rfl) (by kernel_rfl) (Deaf.block (Deaf.thens (Deaf.thens (Deaf.block (Deaf.thens (Deaf.block (Deaf.thens (Deaf.thens (Deaf.block (Deaf.thens (Deaf.body RetM.not_panicked))))))))))) ?_
              refine DW.skip 10 rfl (by kernel_rfl) rfl (by kernel_rfl) (by kernel_rfl) (Deaf.block (Deaf.thens (Deaf.thens (Deaf.block (Deaf.thens (Deaf.block (Deaf.thens (Deaf.thens (Deaf.block (Deaf.thens (Deaf.body RetM.not_panicked))))))))))) ?_
              refine DW.skip 11 rfl (by kernel_rfl) rfl (by kernel_rfl) (by kernel_rfl) (Deaf.block (Deaf.thens (Deaf.thens (Deaf.block (Deaf.thens (Deaf.block (Deaf.thens (Deaf.thens (Deaf.block (Deaf.thens (Deaf.body RetM.not_panicked))))))))))) ?_
              refine DW.skip 12 rfl (by kernel_rfl) rfl (by kernel_rfl) (by kernel_rfl) (Deaf.block (Deaf.thens (Deaf.thens (Deaf.block (Deaf.thens (Deaf.block (Deaf.thens (Deaf.thens (Deaf.block (Deaf.thens (Deaf.body RetM.not_panicked))))))))))) ?_
              refine DW.skip 13 rfl (by kernel_rfl) rfl (by kernel_rfl) (by kernel_rfl) (Deaf.block (Deaf.thens (Deaf.thens (Deaf.block (Deaf.thens (Deaf.block (Deaf.thens (Deaf.thens (Deaf.block (Deaf.thens (Deaf.body RetM.not_panicked))))))))))) ?_
              refine DW.skip 14 rfl (by kernel_rfl) rfl (by kernel_rfl) (by kernel_rfl) (Deaf.block (Deaf.thens (Deaf.thens (Deaf.block (Deaf.thens (Deaf.block (Deaf.thens (Deaf.thens (Deaf.block (Deaf.thens (Deaf.body RetM.not_panicked))))))))))) ?_
              refine DW.skip 15 rfl (by kernel_rfl) rfl (by kernel_rfl) (by kernel_rfl) (Deaf.block (Deaf.thens (Deaf.thens (Deaf.block (Deaf.thens (Deaf.block (Deaf.thens (Deaf.thens (Deaf.block (Deaf.thens (Deaf.body RetM.not_panicked))))))))))) ?_
              refine DW.skip 16 rfl (by kernel_rfl) rfl (by kernel_rfl) (by kernel_rfl) (Deaf.block (Deaf.thens (Deaf.thens (Deaf.block (Deaf.thens (Deaf.block (Deaf.thens (Deaf.thens (Deaf.block (Deaf.thens (Deaf.body RetM.not_panicked))))))))))) ?_
              refine DW.skip 17 rfl (by kernel_rfl) rfl (by kernel_rfl) (by kernel_rfl) (Deaf.block (Deaf.thens (Deaf.thens (Deaf.block (Deaf.thens (Deaf.block (Deaf.thens (Deaf.thens (Deaf.block (Deaf.thens (Deaf.body RetM.not_panicked))))))))))) ?_
              refine DW.skip 18 rfl (by kernel_rfl) rfl (by kernel_rfl) (by kernel_rfl) (Deaf.block (Deaf.thens (Deaf.thens (Deaf.block (Deaf.thens (Deaf.block (Deaf.thens (Deaf.thens (Deaf.block (Deaf.thens (Deaf.body RetM.not_panicked))))))))))) ?_
              refine DW.skip 19 rfl (by kernel_rfl) rfl (by kernel_rfl) (by kernel_rfl) (Deaf.block (Deaf.thens (Deaf.thens (Deaf.block (Deaf.thens (Deaf.block (Deaf.thens (Deaf.thens (Deaf.block (Deaf.thens (Deaf.body RetM.not_panicked))))))))))) ?_
              refine DW.take (T := fun _ => True) 20 (.bool true) rfl (by kernel_rfl) rfl (by kernel_rfl) (.inl fun _ => trivial) (by kernel_rfl) (Deaf.block (Deaf.thens (Deaf.thens (Deaf.block (Deaf.thens (Deaf.block (Deaf.thens (Deaf.thens (Deaf.block (Deaf.thens (Deaf.body RetM.not_panicked))))))))))) (fun w_ _ => (by kernel_rfl)) trivial ?_
              refine DW.take (T := fun _ => True) 21 (.bool true) rfl (by kernel_rfl) rfl (by kernel_rfl) (.inl fun _ => trivial) (by kernel_rfl) (Deaf.block (Deaf.thens (Deaf.thens (Deaf.block (Deaf.thens (Deaf.block (Deaf.thens (Deaf.thens (Deaf.block (Deaf.thens (Deaf.body RetM.not_panicked))))))))))) (fun w_ _ => (by kernel_rfl)) trivial ?_
              refine DW.done (by kernel_rfl) ?_
              refine EX.in_block ?_
              refine EX.then_code ?_
              refine CW.region ?_
              refine WL.q (.int .i64 (k : Int)) (by kernel_rfl) rfl (by kernel_rfl) (by kernel_rfl) ?_
              refine WL.q (.int .i64 ((k + 1 : Nat) : Int)) (by kernel_rfl) rfl (by kernel_rfl) (q_int (x := IntKind.i64.wrap ((k : Int) + 1)) (by kernel_rfl) (wrap_to (by omega) (by omega) (by omega))) ?_
              refine WL.q (.int .i64 ((k + 1 : Nat) : Int)) (by kernel_rfl) rfl (by kernel_rfl) (by kernel_rfl) ?_
              refine WL.nil ?_
              exact EX.then_loop (k + 1) ⟨(by kernel_rfl), (by kernel_rfl), (by kernel_rfl), (by kernel_rfl), (by kernel_rfl), (by kernel_rfl), (lk_val (x := (.bool true)) (by kernel_rfl) (congrArg Value.bool (by rw [inF_succ (by omega)]; simp only [c176, Bool.true_and, Bool.and_true, Bool.false_and, Bool.and_false, Bool.or_true, Bool.true_or, Bool.or_false, Bool.false_or]))), (lk_int (x := ((k + 1 : Nat) : Int)) (by kernel_rfl) (by first | omega | (dsimp only; omega) | rfl | (dsimp only; rfl))), trivial⟩ ⟨h173, l173, (G173.drew), (by first | omega | assumption | (dsimp only [List.length_nil, List.length_append, List.length_cons]; omega))⟩ (by first | omega | (dsimp only; omega))
            ·
              skip
              refine DW.know 287 (.bool false) (x := .bool (inF f155 (q : Int) (fs.take k))) (by kernel_rfl) (congrArg Value.bool c176) ?_
              refine DW.take (T := fun _ => True) 2 (.slice ao fs.length co) rfl (by kernel_rfl) rfl (by kernel_rfl) (.inl fun _ => trivial) (by kernel_rfl) (Deaf.block (Deaf.thens (Deaf.thens (Deaf.block (Deaf.thens (Deaf.block (Deaf.thens (Deaf.thens (Deaf.block (Deaf.thens (Deaf.body RetM.not_panicked))))))))))) (fun w_ _ => (by kernel_rfl)) trivial ?_
              refine DW.take (T := fun _ => True) 3 (.int .i64 (k : Int)) rfl (by kernel_rfl) rfl (by kernel_rfl) (.inl fun _ => trivial) (by kernel_rfl) (Deaf.block (Deaf.thens (Deaf.thens (Deaf.block (Deaf.thens (Deaf.block (Deaf.thens (Deaf.thens (Deaf.block (Deaf.thens (Deaf.body RetM.not_panicked))))))))))) (fun w_ _ => (by kernel_rfl)) trivial ?_
              refine DW.take (T := fun _ => True) 4 (eptr ao (k * factE.sz)) rfl (by kernel_rfl) rfl (by kernel_rfl) (.inl fun _ => trivial) (by kernel_rfl) (Deaf.block (Deaf.thens (Deaf.thens (Deaf.block (Deaf.thens (Deaf.block (Deaf.thens (Deaf.thens (Deaf.block (Deaf.thens (Deaf.body RetM.not_panicked))))))))))) (fun w_ _ => (q_indexAddr (i := k) (E := factE) (xs := fs) (e := 43) (c := co) (k := .i64) (m := fs.length) rfl rfl (by kernel_rfl) (by kernel_rfl) (by kernel_rfl) (f_row6.mono ((((l152.trans l155).trans l158).trans l173).trans (G173.drew).imm)) (by omega))) trivial ?_
              refine DW.take (T := fun _ => True) 5 (eptr ao (k * factE.sz + 0)) rfl (by kernel_rfl) rfl (by kernel_rfl) (.inl fun _ => trivial) (by kernel_rfl) (Deaf.block (Deaf.thens (Deaf.thens (Deaf.block (Deaf.thens (Deaf.block (Deaf.thens (Deaf.thens (Deaf.block (Deaf.thens (Deaf.body RetM.not_panicked))))))))))) (fun w_ _ => (q_fieldAddr_e (i := k) (k := k * factE.sz) (off := 0) rfl (by kernel_rfl) (by kernel_rfl) (f_row6.mono ((((l152.trans l155).trans l158).trans l173).trans (G173.drew).imm)) (by omega))) trivial ?_
              refine DW.take (T := fun w_ => RS (PH.all w_) factE ao fs) 6 (.int .i64 (((fs.getD k factE.dflt)).id)) rfl (by kernel_rfl) rfl (by kernel_rfl) (.inr (by first | exact .head _ | exact .tail _ (.head _) | exact .tail _ (.tail _ (.head _)) | exact .tail _ (.tail _ (.tail _ (.head _))) | simp)) (by kernel_rfl) (Deaf.block (Deaf.thens (Deaf.thens (Deaf.block (Deaf.thens (Deaf.block (Deaf.thens (Deaf.thens (Deaf.block (Deaf.thens (Deaf.body RetM.not_panicked))))))))))) (fun w_ T_ => (q_load_e (i := k) (k := 0) (E := factE) rfl (by kernel_rfl) (by kernel_rfl) T_ (by omega) (by decide) (by kernel_rfl))) (f_row6.mono ((((l152.trans l155).trans l158).trans l173).trans (G173.drew).imm)) ?_
              refine DW.take (T := fun _ => True) 7 (.int .i64 (q : Int)) rfl (by kernel_rfl) rfl (by kernel_rfl) (.inl fun _ => trivial) (by kernel_rfl) (Deaf.block (Deaf.thens (Deaf.thens (Deaf.block (Deaf.thens (Deaf.block (Deaf.thens (Deaf.thens (Deaf.block (Deaf.thens (Deaf.body RetM.not_panicked))))))))))) (fun w_ _ => (by kernel_rfl)) trivial ?_
              refine DW.take (T := fun _ => True) 8 (.bool ((((fs.getD k factE.dflt)).id : Int) == (q : Int))) rfl (by kernel_rfl) rfl (by kernel_rfl) (.inl fun _ => trivial) (by kernel_rfl) (Deaf.block (Deaf.thens (Deaf.thens (Deaf.block (Deaf.thens (Deaf.block (Deaf.thens (Deaf.thens (Deaf.block (Deaf.thens (Deaf.body RetM.not_panicked))))))))))) (fun w_ _ => (by kernel_rfl)) trivial ?_
              refine DW.take (T := fun _ => True) 9 (.bool ((((fs.getD k factE.dflt)).id : Int) == (q : Int))) rfl (by kernel_rfl) rfl (by kernel_rfl) (.inl fun _ => trivial) (by kernel_rfl) (Deaf.block (Deaf.thens (Deaf.thens (Deaf.block (Deaf.thens (Deaf.block (Deaf.thens (Deaf.thens (Deaf.block (Deaf.thens (Deaf.body RetM.not_panicked))))))))))) (fun w_ _ => (by kernel_rfl)) trivial ?_
              rcases bool_cases ((((fs.getD k factE.dflt)).id : Int) == (q : Int)) with c179 | c179
              ·
                skip
                have d180 := eq_of_beq c179
                exact absurd (eq_of_beq c179) ((hn155 rfl) _ (List.mem_map.2 ⟨_, getD_mem (show k < fs.length by omega), rfl⟩))
              ·
                skip
                have d181 := ne_of_beq_false c179
                refine DW.know 295 (.bool false) (x := .bool ((((fs.getD k factE.dflt)).id : Int) == (q : Int))) (by kernel_rfl) (congrArg Value.bool c179) ?_
                refine DW.skip 10 rfl (by kernel_rfl) rfl (by kernel_rfl) (by kernel_rfl) (Deaf.block (Deaf.thens (Deaf.thens (Deaf.block (Deaf.thens (Deaf.block (Deaf.thens (Deaf.thens (Deaf.block (Deaf.thens (Deaf.body RetM.not_panicked))))))))))) ?_
                refine DW.skip 11 rfl (by kernel_rfl) rfl (by kernel_rfl) (by kernel_rfl) (Deaf.block (Deaf.thens (Deaf.thens (Deaf.block (Deaf.thens (Deaf.block (Deaf.thens (Deaf.thens (Deaf.block (Deaf.thens (Deaf.body RetM.not_panicked))))))))))) ?_
                refine DW.skip 12 rfl (by kernel_rfl) rfl (by kernel_rfl) (by kernel_rfl) (Deaf.block (Deaf.thens (Deaf.thens (Deaf.block (Deaf.thens (Deaf.block (Deaf.thens (Deaf.thens (Deaf.block (Deaf.thens (Deaf.body RetM.not_panicked))))))))))) ?_
                refine DW.skip 13 rfl (by kernel_rfl) rfl (by kernel_rfl) (by kernel_rfl) (Deaf.block (Deaf.thens (Deaf.thens (Deaf.block (Deaf.thens (Deaf.block (Deaf.thens (Deaf.thens (Deaf.block (Deaf.thens (Deaf.body RetM.not_panicked))))))))))) ?_
                refine DW.skip 14 rfl (by kernel_rfl) rfl (by kernel_rfl) (by kernel_rfl) (Deaf.block (Deaf.thens (Deaf.thens (Deaf.block (Deaf.thens (Deaf.block (Deaf.thens (Deaf.thens (Deaf.block (Deaf.thens (Deaf.body RetM.not_panicked))))))))))) ?_
                refine DW.skip 15 rfl (by kernel_rfl) rfl (by kernel_rfl) (by kernel_rfl) (Deaf.block (Deaf.thens (Deaf.thens (Deaf.block (Deaf.thens (Deaf.block (Deaf.thens (Deaf.thens (Deaf.block (Deaf.thens (Deaf.body RetM.not_panicked))))))))))) ?_
                refine DW.skip 16 rfl (by kernel_rfl) rfl (by kernel_rfl) (by kernel_rfl) (Deaf.block (Deaf.thens (Deaf.thens (Deaf.block (Deaf.thens (Deaf.block (Deaf.thens (Deaf.thens (Deaf.block (Deaf.thens (Deaf.body RetM.not_panicked))))))))))) ?_
                refine DW.skip 17 rfl (by kernel_rfl) rfl (by kernel_rfl) (by kernel_rfl) (Deaf.block (Deaf.thens (Deaf.thens (Deaf.block (Deaf.thens (Deaf.block (Deaf.thens (Deaf.thens (Deaf.block (Deaf.thens (Deaf.body RetM.not_panicked))))))))))) ?_
                refine DW.skip 18 rfl (by kernel_rfl) rfl (by kernel_rfl) (by kernel_rfl) (Deaf.block (Deaf.thens (Deaf.thens (Deaf.block (Deaf.thens (Deaf.block (Deaf.thens (Deaf.thens (Deaf.block (Deaf.thens (Deaf.body RetM.not_panicked))))))))))) ?_
                refine DW.take (T := fun _ => True) 19 (.bool false) rfl (by kernel_rfl) rfl (by kernel_rfl) (.inl fun _ => trivial) (by kernel_rfl) (Deaf.block (Deaf.thens (Deaf.thens (Deaf.block (Deaf.thens (Deaf.block (Deaf.thens (Deaf.thens (Deaf.block (Deaf.thens (Deaf.body RetM.not_panicked))))))))))) (fun w_ _ => (by kernel_rfl)) trivial ?_
                refine DW.take (T := fun _ => True) 20 (.bool false) rfl (by kernel_rfl) rfl (by kernel_rfl) (.inl fun _ => trivial) (by kernel_rfl) (Deaf.block (Deaf.thens (Deaf.thens (Deaf.block (Deaf.thens (Deaf.block (Deaf.thens (Deaf.thens (Deaf.block (Deaf.thens (Deaf.body RetM.not_panicked))))))))))) (fun w_ _ => (by kernel_rfl)) trivial ?_
                refine DW.take (T := fun _ => True) 21 (.bool false) rfl (by kernel_rfl) rfl (by kernel_rfl) (.inl fun _ => trivial) (by kernel_rfl) (Deaf.block (Deaf.thens (Deaf.thens (Deaf.block (Deaf.thens (Deaf.block (Deaf.thens (Deaf.thens (Deaf.block (Deaf.thens (Deaf.body RetM.not_panicked))))))))))) (fun w_ _ => (by kernel_rfl)) trivial ?_
                refine DW.done (by kernel_rfl) ?_
                refine EX.in_block ?_
                refine EX.then_code ?_
                refine CW.region ?_
                refine WL.q (.int .i64 (k : Int)) (by kernel_rfl) rfl (by kernel_rfl) (by kernel_rfl) ?_
                refine WL.q (.int .i64 ((k + 1 : Nat) : Int)) (by kernel_rfl) rfl (by kernel_rfl) (q_int (x := IntKind.i64.wrap ((k : Int) + 1)) (by kernel_rfl) (wrap_to (by omega) (by omega) (by omega))) ?_
                refine WL.q (.int .i64 ((k + 1 : Nat) : Int)) (by kernel_rfl) rfl (by kernel_rfl) (by kernel_rfl) ?_
                refine WL.nil ?_
                exact EX.then_loop (k + 1) ⟨(by kernel_rfl), (by kernel_rfl), (by kernel_rfl), (by kernel_rfl), (by kernel_rfl), (by kernel_rfl), (lk_val (x := (.bool false)) (by kernel_rfl) (congrArg Value.bool (by rw [inF_succ (by omega)]; simp only [c176, c179, Bool.true_and, Bool.and_true, Bool.false_and, Bool.and_false, Bool.or_true, Bool.true_or, Bool.or_false, Bool.false_or]))), (lk_int (x := ((k + 1 : Nat) : Int)) (by kernel_rfl) (by first | omega | (dsimp only; omega) | rfl | (dsimp only; rfl))), trivial⟩ ⟨h173, l173, (G173.drew), (by first | omega | assumption | (dsimp only [List.length_nil, List.length_append, List.length_cons]; omega))⟩ (by first | omega | (dsimp only; omega))
          ·
            skip
            have d182 := of_decide_eq_false c174
            refine CW.exit ?_
            refine EX.exit_then ?_
            refine EX.exit_then ?_
            refine EX.exit_here ?_
            refine EX.then_code ?_
            refine CW.seq ?_
            refine CW.region ?_
            refine WL.q (.bool false) (by kernel_rfl) rfl (by kernel_rfl) (by kernel_rfl) ?_
            refine WL.q (.bool (inF f155 (q : Int) (fs.take k))) (by kernel_rfl) rfl (by kernel_rfl) (by kernel_rfl) ?_
            refine WL.know 308 (.bool false) (x := (.bool (inF f155 (q : Int) (fs.take k)))) (by kernel_rfl) (congrArg Value.bool (by rw [show k = fs.length by omega, List.take_length]; exact inF_no (hn155 rfl))) ?_
            refine WL.q (.bool false) (by kernel_rfl) rfl (by kernel_rfl) (by kernel_rfl) ?_
            refine WL.nil ?_
            refine EX.then_code ?_
            refine CW.cond_f (by kernel_rfl) (by kernel_rfl) ?_
            refine CW.skip ?_
            refine EX.in_block ?_
            refine EX.then_code ?_
            refine CW.region ?_
            refine WL.q (.int .i64 (q : Int)) (by kernel_rfl) rfl (by kernel_rfl) (by kernel_rfl) ?_
            refine WL.q (.int .i64 ((q + 1 : Nat) : Int)) (by kernel_rfl) rfl (by kernel_rfl) (q_int (x := IntKind.i64.wrap ((q : Int) + 1)) (by kernel_rfl) (wrap_to (by omega) (by omega) (by omega))) ?_
            refine WL.q (.int .i64 ((q + 1 : Nat) : Int)) (by kernel_rfl) rfl (by kernel_rfl) (by kernel_rfl) ?_
            refine WL.nil ?_
            exact EX.then_loop (q + 1) ⟨(by kernel_rfl), (by kernel_rfl), (by kernel_rfl), (lk_int (x := ((q + 1 : Nat) : Int)) (by kernel_rfl) (by first | omega | (dsimp only; omega) | rfl | (dsimp only; rfl))), trivial⟩ ⟨h173, (((l152.trans l155).trans l158).trans l173), G173, (by first | omega | assumption | (dsimp only [List.length_nil, List.length_append, List.length_cons]; omega))⟩ (by first | omega | (dsimp only; omega))
      ·
        skip
        have d183 := of_decide_eq_false c153
        refine CW.exit ?_
        refine EX.exit_then ?_
        refine EX.exit_then ?_
        refine EX.exit_here ?_
        refine EX.then_code ?_
        refine CW.seq ?_
        refine CW.region ?_
        refine WL.q (.bool true) (by kernel_rfl) rfl (by kernel_rfl) (by kernel_rfl) ?_
        refine WL.nil ?_
        refine EX.then_code ?_
        refine CW.ret ?_
        refine EX.ret1 (v := (.bool true)) rfl (by kernel_rfl) ?_
        exact Ret.mk (((l1.trans l5).trans l6).trans l152) (G152.drop (Ly.le (Ly.memA h6 p (fs.map dat) nx) o_mem6)) rfl
end Go.Proofs
