import Derived.Test.YtcogbcnnehkddaaF1
namespace Go.Proofs
open Go Go.Wk
set_option maxHeartbeats 4000000 in
theorem plays_spec {K : Key} {w : World} {h M : PH} (G : Wld K w h M) {ax : Option Addr} {xs : List TAct} {cx : Nat} (Hx : RS h actE ax xs) (hxm : xs.length ≤ maxLen) :
    Calls Try.prog 3 #[.slice ax xs.length cx] w (Ret K h M fun _ v => v = .bool true) := by
  simp only [maxLen] at hxm
  refine enter (l := [(.slice ax xs.length cx)]) Try.func3 rfl Try.ntmps3 (Nat.le_of_ble_eq_true rfl) ?_
  simp only [params]
  refine CW.seq ?_
  refine CW.region ?_
  refine WL.q (.bool false) (by kernel_rfl) rfl (by kernel_rfl) (by kernel_rfl) ?_
  refine WL.nil ?_
  refine EX.then_code ?_
  refine CW.seq ?_
  refine CW.seq ?_
  refine CW.region ?_
  refine WL.call (by kernel_rfl) rfl (by kernel_rfl) (by kernel_rfl) (known_spec G) (Ret.elim ?_)
  rintro w1 h1 _ l1 G1 rfl
  refine WL.q (.bool false) (by kernel_rfl) rfl (by kernel_rfl) (by kernel_rfl) ?_
  refine WL.nil ?_
  refine EX.then_code ?_
  refine CW.cond_f (by kernel_rfl) (by kernel_rfl) ?_
  refine CW.skip ?_
  refine EX.then_code ?_
  refine CW.seq ?_
  refine CW.seq ?_
  refine CW.region ?_
  refine WL.q (.slice ax xs.length cx) (by kernel_rfl) rfl (by kernel_rfl) (by kernel_rfl) ?_
  refine WL.q (.int .i64 (xs.length : Int)) (by kernel_rfl) rfl (by kernel_rfl) (by kernel_rfl) ?_
  refine WL.q (.bool (decide ((xs.length : Int) > 80))) (by kernel_rfl) rfl (by kernel_rfl) (by kernel_rfl) ?_
  refine WL.nil ?_
  refine EX.then_code ?_
  refine CW.cond (decide ((xs.length : Int) > 80)) (by kernel_rfl) (by kernel_rfl) (fun c2 => ?_) (fun c2 => ?_)
  ·
    skip
    have d3 := of_decide_eq_true c2
    refine CW.seq ?_
    refine CW.region ?_
    refine WL.q (.bool true) (by kernel_rfl) rfl (by kernel_rfl) (by kernel_rfl) ?_
    refine WL.nil ?_
    refine EX.then_code ?_
    refine CW.ret ?_
    refine EX.ret_then ?_
    refine EX.ret1 (v := (.bool true)) rfl (by kernel_rfl) ?_
    exact Ret.mk ((PH.le_refl _).trans l1) G1 rfl
  ·
    skip
    have d4 := of_decide_eq_false c2
    refine CW.skip ?_
    refine EX.then_code ?_
    refine CW.seq ?_
    refine CW.region ?_
    refine WL.call (by kernel_rfl) rfl (by kernel_rfl) (by kernel_rfl) (newT_spec G1) (RetM.elim ?_)
    rintro w5 h5 M5 _ l5 G5 ⟨p5, rfl, A5⟩
    refine WL.q (.pointer (some ⟨p5, 0, none⟩)) (by kernel_rfl) rfl (by kernel_rfl) (by kernel_rfl) ?_
    refine WL.nil ?_
    refine EX.then_code ?_
    refine CW.seq ?_
    refine CW.region ?_
    refine WL.q (.slice none 0 0) (by kernel_rfl) rfl (by kernel_rfl) (by kernel_rfl) ?_
    refine WL.nil ?_
    refine EX.then_code ?_
    refine CW.seq ?_
    refine CW.region ?_
    refine WL.q (.int .i64 1) (by kernel_rfl) rfl (by kernel_rfl) (by kernel_rfl) ?_
    refine WL.nil ?_
    refine EX.then_code ?_
    refine CW.seq ?_
    refine CW.seq ?_
    refine CW.region ?_
    refine WL.q (.int .i64 0) (by kernel_rfl) rfl (by kernel_rfl) (by kernel_rfl) ?_
    refine WL.nil ?_
    refine EX.then_code ?_
    refine CW.block ?_
    refine CW.loop (β := Nat × List Tok × Option Addr × Nat × Int) (fun x_ => [(0, (.slice ax xs.length cx)), (3, (.pointer (some ⟨p5, 0, none⟩))), (4, (.slice x_.2.2.1 x_.2.1.length x_.2.2.2.1)), (5, (.int .i64 (x_.2.2.2.2 + 1))), (6, (.int .i64 (x_.1 : Int)))]) (fun x_ w_ => ∃ h_ Mt_, (PH.le h5 h_) ∧ (Wld K w_ h_ Mt_) ∧ (TreeA M Mt_ p5 x_.2.1 x_.2.2.2.2) ∧ (RS h_ tokE x_.2.2.1 x_.2.1) ∧ (x_.1 ≤ xs.length) ∧ (0 ≤ x_.2.2.2.2) ∧ (x_.2.2.2.2 ≤ x_.1) ∧ (x_.2.1.length ≤ x_.1)) (fun x_ => xs.length - x_.1) ⟨0, [], none, 0, 0⟩ ⟨(by kernel_rfl), (by kernel_rfl), (by kernel_rfl), (lk_int (x := 1) (by kernel_rfl) (by first | omega | (dsimp only; done) | (dsimp only; omega))), (lk_int (x := 0) (by kernel_rfl) (by first | omega | (dsimp only; done) | (dsimp only; omega))), trivial⟩ ⟨h5, M5, (PH.le_refl _), G5, A5, (RS.nil _ _ _), (by first | omega | (dsimp only [List.length_nil, List.length_append, List.length_cons]; omega)), (by first | omega | (dsimp only [List.length_nil, List.length_append, List.length_cons]; omega)), (by first | omega | (dsimp only [List.length_nil, List.length_append, List.length_cons]; omega)), (by first | omega | (dsimp only [List.length_nil, List.length_append, List.length_cons]; omega))⟩ ?_
    rintro ⟨k, row, ar, cr, last⟩ w6 ⟨h6, Mt6, l6, G6, A6, Hr, hk, hl0, hlk, hrk⟩
    try dsimp only at *
    have hwf := A6.wf
    refine CW.seq ?_
    refine CW.seq ?_
    refine CW.region ?_
    refine WL.q (.int .i64 (k : Int)) (by kernel_rfl) rfl (by kernel_rfl) (by kernel_rfl) ?_
    refine WL.q (.slice ax xs.length cx) (by kernel_rfl) rfl (by kernel_rfl) (by kernel_rfl) ?_
    refine WL.q (.int .i64 (xs.length : Int)) (by kernel_rfl) rfl (by kernel_rfl) (by kernel_rfl) ?_
    refine WL.q (.bool (decide ((k : Int) < (xs.length : Int)))) (by kernel_rfl) rfl (by kernel_rfl) (by kernel_rfl) ?_
    refine WL.nil ?_
    refine EX.then_code ?_
    refine CW.cond (decide ((k : Int) < (xs.length : Int))) (by kernel_rfl) (by kernel_rfl) (fun c7 => ?_) (fun c7 => ?_)
    ·
      skip
      have d8 := of_decide_eq_true c7
      refine CW.skip ?_
      refine EX.then_code ?_
      refine CW.seq ?_
      refine CW.block ?_
      refine CW.seq ?_
      refine CW.region ?_
      refine WL.q (.slice ax xs.length cx) (by kernel_rfl) rfl (by kernel_rfl) (by kernel_rfl) ?_
      refine WL.q (.int .i64 (k : Int)) (by kernel_rfl) rfl (by kernel_rfl) (by kernel_rfl) ?_
      refine WL.q (eptr ax (k * actE.sz)) (by kernel_rfl) rfl (by kernel_rfl) (q_indexAddr (i := k) (E := actE) (xs := xs) (e := 28) (c := cx) (k := .i64) (m := xs.length) rfl rfl (by kernel_rfl) (by kernel_rfl) (by kernel_rfl) (Hx.mono (((((PH.le_refl _).trans l1).trans l5).trans l6).trans G6.imm)) (by omega)) ?_
      refine WL.q (.agg #[(.int .i64 (((xs.getD k actE.dflt)).op)), (.int .i64 (((xs.getD k actE.dflt)).a)), (.int .i64 (((xs.getD k actE.dflt)).b))]) (by kernel_rfl) rfl (by kernel_rfl) (q_val (q_loadAgg_e (i := k) (E := actE) rfl (by kernel_rfl) (by kernel_rfl) (Hx.mono (((((PH.le_refl _).trans l1).trans l5).trans l6).trans G6.imm)) (by omega)) (by kernel_rfl)) ?_
      refine WL.new (ob := (.cells #[(.int .i64 0), (.int .i64 0), (.int .i64 0)] 28)) G6 (by kernel_rfl) rfl (by kernel_rfl) (fun b_ => .pointer (some ⟨b_, 0, none⟩)) (fun u_ => by kernel_rfl) ?_
      intro b9 w9 n9 i9 G9
      refine WL.store #[(.int .i64 (((xs.getD k actE.dflt)).op)), (.int .i64 (((xs.getD k actE.dflt)).a)), (.int .i64 (((xs.getD k actE.dflt)).b))] (et := 28) (v := (.agg #[(.int .i64 (((xs.getD k actE.dflt)).op)), (.int .i64 (((xs.getD k actE.dflt)).a)), (.int .i64 (((xs.getD k actE.dflt)).b))])) (vs := [(.int .i64 (((xs.getD k actE.dflt)).op)), (.int .i64 (((xs.getD k actE.dflt)).a)), (.int .i64 (((xs.getD k actE.dflt)).b))]) (off := 0) G9 (PH.set_same _ _ _) rfl (by kernel_rfl) (by kernel_rfl) rfl (by kernel_rfl) (by kernel_rfl) (by kernel_rfl) (by kernel_rfl) (by simp [Value.oneCell']) (by simp) (by kernel_rfl) ?_
      intro w10 G10
      rw [PH.set_set] at G10
      obtain ⟨h11, l11, G11, hb11⟩ := G10.frz n9
      refine WL.nil ?_
      refine EX.then_code ?_
      refine CW.seq ?_
      refine CW.seq ?_
      refine CW.region ?_
      refine WL.q (.pointer (some ⟨b9, 0, none⟩)) (by kernel_rfl) rfl (by kernel_rfl) (by kernel_rfl) ?_
      refine WL.q (.int .i64 (((xs.getD k actE.dflt)).op)) (by kernel_rfl) rfl (by kernel_rfl) (q_load (off := 0) rfl (by kernel_rfl) (by kernel_rfl) (G11.imm _ _ ((PH.le_refl _) _ _ hb11)) (by kernel_rfl)) ?_
      refine WL.nil ?_
      refine EX.then_code ?_
      refine CW.block ?_
      refine CW.seq ?_
      refine CW.region ?_
      refine WL.q (.bool ((((xs.getD k actE.dflt)).op : Int) == 1)) (by kernel_rfl) rfl (by kernel_rfl) (by kernel_rfl) ?_
      refine WL.q (.bool ((((xs.getD k actE.dflt)).op : Int) == 1)) (by kernel_rfl) rfl (by kernel_rfl) (by kernel_rfl) ?_
      refine WL.nil ?_
      refine EX.then_code ?_
      refine CW.cond ((((xs.getD k actE.dflt)).op : Int) == 1) (by kernel_rfl) (by kernel_rfl) (fun c12 => ?_) (fun c12 => ?_)
      ·
        skip
        have d13 := eq_of_beq c12
        refine CW.seq ?_
        refine CW.region ?_
        refine WL.q (.pointer (some ⟨p5, 0, none⟩)) (by kernel_rfl) rfl (by kernel_rfl) (by kernel_rfl) ?_
        refine WL.q (.pointer (some ⟨b9, 1, none⟩)) (by kernel_rfl) rfl (by kernel_rfl) (by kernel_rfl) ?_
        refine WL.q (.int .i64 (((xs.getD k actE.dflt)).a)) (by kernel_rfl) rfl (by kernel_rfl) (q_load (off := 1) rfl (by kernel_rfl) (by kernel_rfl) (G11.imm _ _ ((PH.le_refl _) _ _ hb11)) (by kernel_rfl)) ?_
        refine WL.q (.pointer (some ⟨b9, 2, none⟩)) (by kernel_rfl) rfl (by kernel_rfl) (by kernel_rfl) ?_
        refine WL.q (.int .i64 (((xs.getD k actE.dflt)).b)) (by kernel_rfl) rfl (by kernel_rfl) (q_load (off := 2) rfl (by kernel_rfl) (by kernel_rfl) (G11.imm _ _ ((PH.le_refl _) _ _ hb11)) (by kernel_rfl)) ?_
        rcases Classical.em ((xs.getD k actE.dflt).a = 0 ∨ 0 ≤ atF row (xs.getD k actE.dflt).a) with hin | hin
        ·
          skip
          refine WL.call (by kernel_rfl) rfl (by kernel_rfl) (by kernel_rfl) (addT_yes G11 A6 (by omega) (by omega) (by omega) (((xs.getD k actE.dflt)).a) (((xs.getD k actE.dflt)).b) (hin)) (RetM.elim ?_)
          rintro w14 h14 M14 _ l14 G14 ⟨rfl, A14⟩
          refine WL.q (.tuple #[(.int .i64 (last + 1)), (.int .i64 0)]) (by kernel_rfl) rfl (by kernel_rfl) (by kernel_rfl) ?_
          refine WL.q (.int .i64 (last + 1)) (by kernel_rfl) rfl (by kernel_rfl) (by kernel_rfl) ?_
          refine WL.q (.int .i64 0) (by kernel_rfl) rfl (by kernel_rfl) (by kernel_rfl) ?_
          refine WL.q (.int .i64 (last + 1)) (by kernel_rfl) rfl (by kernel_rfl) (by kernel_rfl) ?_
          refine WL.q (.int .i64 0) (by kernel_rfl) rfl (by kernel_rfl) (by kernel_rfl) ?_
          refine WL.nil ?_
          refine EX.then_code ?_
          refine CW.seq ?_
          refine CW.seq ?_
          refine CW.region ?_
          refine WL.q (.pointer (some ⟨b9, 1, none⟩)) (by kernel_rfl) rfl (by kernel_rfl) (by kernel_rfl) ?_
          refine WL.q (.int .i64 (((xs.getD k actE.dflt)).a)) (by kernel_rfl) rfl (by kernel_rfl) (q_load (off := 1) rfl (by kernel_rfl) (by kernel_rfl) (G14.imm _ _ (((PH.le_refl _).trans l14) _ _ hb11)) (by kernel_rfl)) ?_
          refine WL.q (.bool ((((xs.getD k actE.dflt)).a : Int) != 0)) (by kernel_rfl) rfl (by kernel_rfl) (by kernel_rfl) ?_
          refine WL.q (.bool ((((xs.getD k actE.dflt)).a : Int) != 0)) (by kernel_rfl) rfl (by kernel_rfl) (by kernel_rfl) ?_
          rcases bool_cases ((((xs.getD k actE.dflt)).a : Int) != 0) with c15 | c15
          ·
            skip
            have d16 := bne_true c15
            refine WL.know 54 (.bool true) (x := .bool ((((xs.getD k actE.dflt)).a : Int) != 0)) (by kernel_rfl) (congrArg Value.bool c15) ?_
            refine WL.q (.slice ar row.length cr) (by kernel_rfl) rfl (by kernel_rfl) (by kernel_rfl) ?_
            refine WL.q (.pointer (some ⟨b9, 1, none⟩)) (by kernel_rfl) rfl (by kernel_rfl) (by kernel_rfl) ?_
            refine WL.q (.int .i64 (((xs.getD k actE.dflt)).a)) (by kernel_rfl) rfl (by kernel_rfl) (q_load (off := 1) rfl (by kernel_rfl) (by kernel_rfl) (G14.imm _ _ (((PH.le_refl _).trans l14) _ _ hb11)) (by kernel_rfl)) ?_
            refine WL.call (by kernel_rfl) rfl (by kernel_rfl) (by kernel_rfl) (at_spec (l := row) (cl := cr) G14 (((xs.getD k actE.dflt)).a) (Hr.mono (((PH.le_refl _).trans l11).trans l14)) (by omega)) (Ret.elim ?_)
            rintro w17 h17 _ l17 G17 rfl
            have e18 := atF_bd row (((xs.getD k actE.dflt)).a)
            refine WL.q (.bool (decide ((atF row (((xs.getD k actE.dflt)).a)) < 0))) (by kernel_rfl) rfl (by kernel_rfl) (by kernel_rfl) ?_
            refine WL.q (.bool (decide ((atF row (((xs.getD k actE.dflt)).a)) < 0))) (by kernel_rfl) rfl (by kernel_rfl) (by kernel_rfl) ?_
            refine WL.nil ?_
            refine EX.then_code ?_
            refine CW.cond (decide ((atF row (((xs.getD k actE.dflt)).a)) < 0)) (by kernel_rfl) (by kernel_rfl) (fun c19 => ?_) (fun c19 => ?_)
            ·
              skip
              have d20 := of_decide_eq_true c19
              refine CW.seq ?_
              refine CW.seq ?_
              refine CW.region ?_
              refine WL.q (.int .i64 0) (by kernel_rfl) rfl (by kernel_rfl) (by kernel_rfl) ?_
              refine WL.q (.bool true) (by kernel_rfl) rfl (by kernel_rfl) (by kernel_rfl) ?_
              refine WL.q (.bool true) (by kernel_rfl) rfl (by kernel_rfl) (by kernel_rfl) ?_
              refine WL.skip (by kernel_rfl) rfl (by kernel_rfl) ?_
              refine WL.skip (by kernel_rfl) rfl (by kernel_rfl) ?_
              refine WL.q (.bool true) (by kernel_rfl) rfl (by kernel_rfl) (by kernel_rfl) ?_
              refine WL.nil ?_
              refine EX.then_code ?_
              refine CW.cond_t (by kernel_rfl) (by kernel_rfl) ?_
              refine CW.seq ?_
              refine CW.region ?_
              refine WL.q (.bool false) (by kernel_rfl) rfl (by kernel_rfl) (by kernel_rfl) ?_
              refine WL.nil ?_
              refine EX.then_code ?_
              refine CW.ret ?_
              refine EX.ret_then ?_
              refine EX.ret_then ?_
              refine EX.ret_block ?_
              refine EX.ret_then ?_
              refine EX.ret_block ?_
              refine EX.ret_then ?_
              refine EX.ret_then ?_
              refine EX.ret_block ?_
              refine EX.ret_then ?_
              refine EX.ret1 (v := (.bool false)) rfl (by kernel_rfl) ?_
              first | (exfalso; omega) | (exfalso; simp only [List.length_append, List.length_cons, List.length_nil, List.nil_append] at *; omega) | (exfalso; simp_all; done)
            ·
              skip
              have d21 := of_decide_eq_false c19
              refine CW.skip ?_
              refine EX.then_code ?_
              refine CW.seq ?_
              refine CW.seq ?_
              refine CW.region ?_
              refine WL.q (.int .i64 0) (by kernel_rfl) rfl (by kernel_rfl) (by kernel_rfl) ?_
              refine WL.q (.bool false) (by kernel_rfl) rfl (by kernel_rfl) (by kernel_rfl) ?_
              refine WL.q (.bool false) (by kernel_rfl) rfl (by kernel_rfl) (by kernel_rfl) ?_
              refine WL.q (.int .i64 (last + 1)) (by kernel_rfl) rfl (by kernel_rfl) (by kernel_rfl) ?_
              refine WL.q (.int .i64 (last + 1)) (by kernel_rfl) rfl (by kernel_rfl) (by kernel_rfl) ?_
              refine WL.q (.bool (((last + 1) : Int) != (last + 1))) (by kernel_rfl) rfl (by kernel_rfl) (by kernel_rfl) ?_
              refine WL.q (.bool (((last + 1) : Int) != (last + 1))) (by kernel_rfl) rfl (by kernel_rfl) (by kernel_rfl) ?_
              refine WL.nil ?_
              refine EX.then_code ?_
              refine CW.cond (((last + 1) : Int) != (last + 1)) (by kernel_rfl) (by kernel_rfl) (fun c22 => ?_) (fun c22 => ?_)
              ·
                skip
                have d23 := bne_true c22
                refine CW.seq ?_
                refine CW.region ?_
                refine WL.q (.bool false) (by kernel_rfl) rfl (by kernel_rfl) (by kernel_rfl) ?_
                refine WL.nil ?_
                refine EX.then_code ?_
                refine CW.ret ?_
                refine EX.ret_then ?_
                refine EX.ret_block ?_
                refine EX.ret_then ?_
                refine EX.ret_block ?_
                refine EX.ret_then ?_
                refine EX.ret_then ?_
                refine EX.ret_block ?_
                refine EX.ret_then ?_
                refine EX.ret1 (v := (.bool false)) rfl (by kernel_rfl) ?_
                first | (exfalso; omega) | (exfalso; simp only [List.length_append, List.length_cons, List.length_nil, List.nil_append] at *; omega) | (exfalso; simp_all; done)
              ·
                skip
                have d24 := bne_false c22
                refine CW.skip ?_
                refine EX.then_code ?_
                refine CW.seq ?_
                refine CW.draw (by kernel_rfl) [(5, fun w_ => PH.all w_ b9 = some (.cells #[(.int .i64 (((xs.getD k actE.dflt)).op)), (.int .i64 (((xs.getD k actE.dflt)).a)), (.int .i64 (((xs.getD k actE.dflt)).b))] 28 (0, 0))), (7, fun w_ => PH.all w_ b9 = some (.cells #[(.int .i64 (((xs.getD k actE.dflt)).op)), (.int .i64 (((xs.getD k actE.dflt)).a)), (.int .i64 (((xs.getD k actE.dflt)).b))] 28 (0, 0)))] ?_
                refine DW.take (T := fun _ => True) 1 (.slice ar row.length cr) rfl (by kernel_rfl) rfl (by kernel_rfl) (.inl fun _ => trivial) (by kernel_rfl) (Deaf.thens (Deaf.block (Deaf.thens (Deaf.block (Deaf.thens (Deaf.thens (Deaf.block (Deaf.thens (Deaf.body RetM.not_panicked))))))))) (fun w_ _ => (by kernel_rfl)) trivial ?_
                refine DW.take (T := fun _ => True) 3 (.int .i64 (last + 1)) rfl (by kernel_rfl) rfl (by kernel_rfl) (.inl fun _ => trivial) (by kernel_rfl) (Deaf.thens (Deaf.block (Deaf.thens (Deaf.block (Deaf.thens (Deaf.thens (Deaf.block (Deaf.thens (Deaf.body RetM.not_panicked))))))))) (fun w_ _ => (by kernel_rfl)) trivial ?_
                refine DW.take (T := fun _ => True) 4 (.pointer (some ⟨b9, 1, none⟩)) rfl (by kernel_rfl) rfl (by kernel_rfl) (.inl fun _ => trivial) (by kernel_rfl) (Deaf.thens (Deaf.block (Deaf.thens (Deaf.block (Deaf.thens (Deaf.thens (Deaf.block (Deaf.thens (Deaf.body RetM.not_panicked))))))))) (fun w_ _ => (by kernel_rfl)) trivial ?_
                refine DW.take (T := fun w_ => PH.all w_ b9 = some (.cells #[(.int .i64 (((xs.getD k actE.dflt)).op)), (.int .i64 (((xs.getD k actE.dflt)).a)), (.int .i64 (((xs.getD k actE.dflt)).b))] 28 (0, 0))) 5 (.int .i64 (((xs.getD k actE.dflt)).a)) rfl (by kernel_rfl) rfl (by kernel_rfl) (.inr (by simp only [List.mem_cons, true_or, or_true])) (by kernel_rfl) (Deaf.thens (Deaf.block (Deaf.thens (Deaf.block (Deaf.thens (Deaf.thens (Deaf.block (Deaf.thens (Deaf.body RetM.not_panicked))))))))) (fun w_ T_ => (q_load (off := 1) rfl (by kernel_rfl) (by kernel_rfl) T_ (by kernel_rfl))) ((G17.drew).imm _ _ ((((PH.le_refl _).trans l14).trans l17) _ _ hb11)) ?_
                refine DW.take (T := fun _ => True) 6 (.pointer (some ⟨b9, 2, none⟩)) rfl (by kernel_rfl) rfl (by kernel_rfl) (.inl fun _ => trivial) (by kernel_rfl) (Deaf.thens (Deaf.block (Deaf.thens (Deaf.block (Deaf.thens (Deaf.thens (Deaf.block (Deaf.thens (Deaf.body RetM.not_panicked))))))))) (fun w_ _ => (by kernel_rfl)) trivial ?_
                refine DW.take (T := fun w_ => PH.all w_ b9 = some (.cells #[(.int .i64 (((xs.getD k actE.dflt)).op)), (.int .i64 (((xs.getD k actE.dflt)).a)), (.int .i64 (((xs.getD k actE.dflt)).b))] 28 (0, 0))) 7 (.int .i64 (((xs.getD k actE.dflt)).b)) rfl (by kernel_rfl) rfl (by kernel_rfl) (.inr (by simp only [List.mem_cons, true_or, or_true])) (by kernel_rfl) (Deaf.thens (Deaf.block (Deaf.thens (Deaf.block (Deaf.thens (Deaf.thens (Deaf.block (Deaf.thens (Deaf.body RetM.not_panicked))))))))) (fun w_ T_ => (q_load (off := 2) rfl (by kernel_rfl) (by kernel_rfl) T_ (by kernel_rfl))) ((G17.drew).imm _ _ ((((PH.le_refl _).trans l14).trans l17) _ _ hb11)) ?_
                refine DW.take (T := fun _ => True) 8 (.agg #[(.int .i64 (last + 1)), (.int .i64 (((xs.getD k actE.dflt)).a)), (.int .i64 (((xs.getD k actE.dflt)).b))]) rfl (by kernel_rfl) rfl (by kernel_rfl) (.inl fun _ => trivial) (by kernel_rfl) (Deaf.thens (Deaf.block (Deaf.thens (Deaf.block (Deaf.thens (Deaf.thens (Deaf.block (Deaf.thens (Deaf.body RetM.not_panicked))))))))) (fun w_ _ => (by kernel_rfl)) trivial ?_
                refine DW.two 0 9 (by kernel_rfl) ?_ ?_
                ·
                  skip
                  refine DOp.new (ob := (.cells #[] 34)) (G17.drew) rfl (by kernel_rfl) rfl (by kernel_rfl) (fun b_ => .slice (some ⟨b_, 0, none⟩) 0 0) (fun u_ => by kernel_rfl) ⟨.inr (fun T_ => le_all_alloc _ _ _ _ T_), .inr (fun T_ => le_all_alloc _ _ _ _ T_), trivial⟩ ?_
                  intro b26 w26 n26 i26 G26
                  refine DW.two 2 9 (by kernel_rfl) ?_ ?_
                  ·
                    skip
                    have o27 : Own 34 tokE M14 (M14.set b26 (.cells #[] 34)) (some ⟨b26, 0, none⟩) 0 ([] : List _) := Own.lit n26 (by kernel_rfl) (by kernel_rfl) (by decide)
                    refine DOp.append (e := 34) (bytes := 24) (cap := 0) (c2 := cr) (M0 := M14) (xs := ([])) (ys := row) G26 (PH.le_refl _) o27 (PH.le_refl _) (Hr.mono (((((PH.le_refl _).trans l11).trans l14).trans l17).trans G26.imm)) rfl rfl (by kernel_rfl) (by kernel_rfl) rfl (by kernel_rfl) (by kernel_rfl) (by kernel_rfl) (by first | (simp only [maxLen, List.length_append, List.length_cons, List.length_nil]; omega) | (simp only [maxLen]; omega)) (by first | omega | (simp only [List.length_append, List.length_cons, List.length_nil]; omega)) (fun a_ k_ w_ M_ G_ o_ => ⟨.inr (fun _ => (G_.imm _ _ ((((PH.le_refl _).trans l14).trans l17) _ _ hb11))), .inr (fun _ => (G_.imm _ _ ((((PH.le_refl _).trans l14).trans l17) _ _ hb11))), trivial⟩) ?_
                    intro a29 k29 w29 M29 G29 o29 z29
                    refine DW.only 9 (by kernel_rfl) ?_
                    refine DOp.new (ob := (.cells #[(.int .i64 (last + 1)), (.int .i64 (((xs.getD k actE.dflt)).a)), (.int .i64 (((xs.getD k actE.dflt)).b))] 34)) G29 rfl (by kernel_rfl) rfl (by kernel_rfl) (fun b_ => .slice (some ⟨b_, 0, none⟩) 1 1) (fun u_ => by kernel_rfl) ⟨.inr (fun T_ => le_all_alloc _ _ _ _ T_), .inr (fun T_ => le_all_alloc _ _ _ _ T_), trivial⟩ ?_
                    intro b30 w30 n30 i30 G30
                    refine DW.only 10 (by kernel_rfl) ?_
                    refine DOp.append (e := 34) (bytes := 24) (cap := k29) (c2 := 1) (M0 := M14) (xs := ([] ++ row)) (ys := ([(Tok.mk (last + 1) (((xs.getD k actE.dflt)).a) (((xs.getD k actE.dflt)).b))])) G30 (PH.le_set _ n30) o29 (PH.le_refl _) (RS.blk (E := tokE) (xs := [(Tok.mk (last + 1) (((xs.getD k actE.dflt)).a) (((xs.getD k actE.dflt)).b))]) (G30.own _ _ (PH.set_same _ _ _)) (by kernel_rfl)) rfl rfl (by kernel_rfl) (by kernel_rfl) rfl (by kernel_rfl) (by kernel_rfl) (by kernel_rfl) (by first | (simp only [maxLen, List.length_append, List.length_cons, List.length_nil]; omega) | (simp only [maxLen]; omega)) (by first | omega | (simp only [List.length_append, List.length_cons, List.length_nil]; omega)) (fun a_ k_ w_ M_ G_ o_ => ⟨.inr (fun _ => (G_.imm _ _ ((((PH.le_refl _).trans l14).trans l17) _ _ hb11))), .inr (fun _ => (G_.imm _ _ ((((PH.le_refl _).trans l14).trans l17) _ _ hb11))), trivial⟩) ?_
                    intro a31 k31 w31 M31 G31 o31 z31
                    refine DW.take (T := fun _ => True) 11 (.slice a31 ((([] ++ row) ++ ([(Tok.mk (last + 1) (((xs.getD k actE.dflt)).a) (((xs.getD k actE.dflt)).b))])).length) k31) rfl (by kernel_rfl) rfl (by kernel_rfl) (.inl fun _ => trivial) (by kernel_rfl) (Deaf.thens (Deaf.block (Deaf.thens (Deaf.block (Deaf.thens (Deaf.thens (Deaf.block (Deaf.thens (Deaf.body RetM.not_panicked))))))))) (fun w_ _ => (by kernel_rfl)) trivial ?_
                    refine DW.done (by kernel_rfl) ?_
                    refine EX.then_code ?_
                    refine CW.region ?_
                    refine WL.q (.int .i64 (last + 1)) (by kernel_rfl) rfl (by kernel_rfl) (by kernel_rfl) ?_
                    refine WL.q (.int .i64 ((last + 1) + 1)) (by kernel_rfl) rfl (by kernel_rfl) (q_int (x := IntKind.i64.wrap ((last + 1) + 1)) (by kernel_rfl) (wrap_to (by omega) (by omega) (by omega))) ?_
                    refine WL.q (.int .i64 ((last + 1) + 1)) (by kernel_rfl) rfl (by kernel_rfl) (by kernel_rfl) ?_
                    refine WL.nil ?_
                    refine EX.in_block ?_
                    refine EX.then_code ?_
                    refine CW.seq ?_
                    refine CW.region ?_
                    refine WL.q (.pointer (some ⟨p5, 0, none⟩)) (by kernel_rfl) rfl (by kernel_rfl) (by kernel_rfl) ?_
                    obtain ⟨h32, l32, G32, r32⟩ := o31.freeze G31
                    refine WL.call (by kernel_rfl) rfl (by kernel_rfl) (by kernel_rfl) (lenT_spec (row := (row ++ [Tok.mk (last + 1) (((xs.getD k actE.dflt)).a) (((xs.getD k actE.dflt)).b)])) G32 A14 (by first | omega | exact Nat.le_trans (cutF_len (by assumption) _) (by omega) | (simp only [List.length_append, List.length_cons, List.length_nil, List.nil_append]; omega))) (Ret.elim ?_)
                    rintro w33 h33 _ l33 G33 rfl
                    refine WL.q (.slice a31 ((([] ++ row) ++ ([(Tok.mk (last + 1) (((xs.getD k actE.dflt)).a) (((xs.getD k actE.dflt)).b))])).length) k31) (by kernel_rfl) rfl (by kernel_rfl) (by kernel_rfl) ?_
                    refine WL.q (.int .i64 ((([] ++ row) ++ ([(Tok.mk (last + 1) (((xs.getD k actE.dflt)).a) (((xs.getD k actE.dflt)).b))])).length : Int)) (by kernel_rfl) rfl (by kernel_rfl) (by kernel_rfl) ?_
                    refine WL.q (.bool ((((row ++ [Tok.mk (last + 1) (((xs.getD k actE.dflt)).a) (((xs.getD k actE.dflt)).b)]).length : Int) : Int) != ((([] ++ row) ++ ([(Tok.mk (last + 1) (((xs.getD k actE.dflt)).a) (((xs.getD k actE.dflt)).b))])).length : Int))) (by kernel_rfl) rfl (by kernel_rfl) (by kernel_rfl) ?_
                    refine WL.nil ?_
                    refine EX.then_code ?_
                    refine CW.cond ((((row ++ [Tok.mk (last + 1) (((xs.getD k actE.dflt)).a) (((xs.getD k actE.dflt)).b)]).length : Int) : Int) != ((([] ++ row) ++ ([(Tok.mk (last + 1) (((xs.getD k actE.dflt)).a) (((xs.getD k actE.dflt)).b))])).length : Int)) (by kernel_rfl) (by kernel_rfl) (fun c34 => ?_) (fun c34 => ?_)
                    ·
                      skip
                      have d35 := bne_true c34
                      refine CW.seq ?_
                      refine CW.region ?_
                      refine WL.q (.bool false) (by kernel_rfl) rfl (by kernel_rfl) (by kernel_rfl) ?_
                      refine WL.nil ?_
                      refine EX.then_code ?_
                      refine CW.ret ?_
                      refine EX.ret_block ?_
                      refine EX.ret_then ?_
                      refine EX.ret_then ?_
                      refine EX.ret_block ?_
                      refine EX.ret_then ?_
                      refine EX.ret1 (v := (.bool false)) rfl (by kernel_rfl) ?_
                      first | (exfalso; omega) | (exfalso; simp only [List.length_append, List.length_cons, List.length_nil, List.nil_append] at *; omega) | (exfalso; simp_all; done)
                    ·
                      skip
                      have d36 := bne_false c34
                      refine CW.skip ?_
                      refine EX.in_block ?_
                      refine EX.then_code ?_
                      refine CW.region ?_
                      refine WL.q (.int .i64 (k : Int)) (by kernel_rfl) rfl (by kernel_rfl) (by kernel_rfl) ?_
                      refine WL.q (.int .i64 ((k + 1 : Nat) : Int)) (by kernel_rfl) rfl (by kernel_rfl) (q_int (x := IntKind.i64.wrap ((k : Int) + 1)) (by kernel_rfl) (wrap_to (by omega) (by omega) (by omega))) ?_
                      refine WL.q (.int .i64 ((k + 1 : Nat) : Int)) (by kernel_rfl) rfl (by kernel_rfl) (by kernel_rfl) ?_
                      refine WL.nil ?_
                      exact EX.then_loop ⟨k + 1, (([] ++ row) ++ ([(Tok.mk (last + 1) (((xs.getD k actE.dflt)).a) (((xs.getD k actE.dflt)).b))])), a31, k31, (last + 1)⟩ ⟨(by kernel_rfl), (by kernel_rfl), (by kernel_rfl), (by kernel_rfl), (lk_int (x := ((k + 1 : Nat) : Int)) (by kernel_rfl) (by first | omega | (dsimp only; done) | (dsimp only; omega))), trivial⟩ ⟨h33, M14, (((((l6.trans l11).trans l14).trans l17).trans l32).trans l33), G33, A14, (r32.mono ((PH.le_refl _).trans l33)), (by first | omega | (dsimp only [List.length_nil, List.length_append, List.length_cons]; omega)), (by first | omega | (dsimp only [List.length_nil, List.length_append, List.length_cons]; omega)), (by first | omega | (dsimp only [List.length_nil, List.length_append, List.length_cons]; omega)), (by first | omega | (simp only [List.length_append, List.length_cons, List.length_nil, List.nil_append]; omega))⟩ (by first | omega | (dsimp only; omega))
                  ·
                    skip
                    refine DOp.new (ob := (.cells #[(.int .i64 (last + 1)), (.int .i64 (((xs.getD k actE.dflt)).a)), (.int .i64 (((xs.getD k actE.dflt)).b))] 34)) G26 rfl (by kernel_rfl) rfl (by kernel_rfl) (fun b_ => .slice (some ⟨b_, 0, none⟩) 1 1) (fun u_ => by kernel_rfl) ⟨.inr (fun T_ => le_all_alloc _ _ _ _ T_), .inr (fun T_ => le_all_alloc _ _ _ _ T_), trivial⟩ ?_
                    intro b37 w37 n37 i37 G37
                    refine DW.only 2 (by kernel_rfl) ?_
                    have o38 : Own 34 tokE M14 (M14.set b26 (.cells #[] 34)) (some ⟨b26, 0, none⟩) 0 ([] : List _) := Own.lit n26 (by kernel_rfl) (by kernel_rfl) (by decide)
                    have n40 := none_of_le o38.le n37
                    have o41 := Own.under (o := (.cells #[(.int .i64 (last + 1)), (.int .i64 (((xs.getD k actE.dflt)).a)), (.int .i64 (((xs.getD k actE.dflt)).b))] 34)) n37 o38
                    refine DOp.append (e := 34) (bytes := 24) (cap := 0) (c2 := cr) (M0 := (M14.set b37 (.cells #[(.int .i64 (last + 1)), (.int .i64 (((xs.getD k actE.dflt)).a)), (.int .i64 (((xs.getD k actE.dflt)).b))] 34))) (xs := ([])) (ys := row) G37 (PH.le_refl _) o41 (PH.le_refl _) (Hr.mono (((((PH.le_refl _).trans l11).trans l14).trans l17).trans G37.imm)) rfl rfl (by kernel_rfl) (by kernel_rfl) rfl (by kernel_rfl) (by kernel_rfl) (by kernel_rfl) (by first | (simp only [maxLen, List.length_append, List.length_cons, List.length_nil]; omega) | (simp only [maxLen]; omega)) (by first | omega | (simp only [List.length_append, List.length_cons, List.length_nil]; omega)) (fun a_ k_ w_ M_ G_ o_ => ⟨.inr (fun _ => (G_.imm _ _ ((((PH.le_refl _).trans l14).trans l17) _ _ hb11))), .inr (fun _ => (G_.imm _ _ ((((PH.le_refl _).trans l14).trans l17) _ _ hb11))), trivial⟩) ?_
                    intro a42 k42 w42 M42 G42 o42 z42
                    refine DW.only 10 (by kernel_rfl) ?_
                    refine DOp.append (e := 34) (bytes := 24) (cap := k42) (c2 := 1) (M0 := (M14.set b37 (.cells #[(.int .i64 (last + 1)), (.int .i64 (((xs.getD k actE.dflt)).a)), (.int .i64 (((xs.getD k actE.dflt)).b))] 34))) (xs := ([] ++ row)) (ys := ([(Tok.mk (last + 1) (((xs.getD k actE.dflt)).a) (((xs.getD k actE.dflt)).b))])) G42 (PH.le_refl _) o42 (PH.le_refl _) (RS.blk (E := tokE) (xs := [(Tok.mk (last + 1) (((xs.getD k actE.dflt)).a) (((xs.getD k actE.dflt)).b))]) (G42.own _ _ (o42.le _ _ (PH.set_same _ _ _))) (by kernel_rfl)) rfl rfl (by kernel_rfl) (by kernel_rfl) rfl (by kernel_rfl) (by kernel_rfl) (by kernel_rfl) (by first | (simp only [maxLen, List.length_append, List.length_cons, List.length_nil]; omega) | (simp only [maxLen]; omega)) (by first | omega | (simp only [List.length_append, List.length_cons, List.length_nil]; omega)) (fun a_ k_ w_ M_ G_ o_ => ⟨.inr (fun _ => (G_.imm _ _ ((((PH.le_refl _).trans l14).trans l17) _ _ hb11))), .inr (fun _ => (G_.imm _ _ ((((PH.le_refl _).trans l14).trans l17) _ _ hb11))), trivial⟩) ?_
                    intro a43 k43 w43 M43 G43 o43 z43
                    refine DW.take (T := fun _ => True) 11 (.slice a43 ((([] ++ row) ++ ([(Tok.mk (last + 1) (((xs.getD k actE.dflt)).a) (((xs.getD k actE.dflt)).b))])).length) k43) rfl (by kernel_rfl) rfl (by kernel_rfl) (.inl fun _ => trivial) (by kernel_rfl) (Deaf.thens (Deaf.block (Deaf.thens (Deaf.block (Deaf.thens (Deaf.thens (Deaf.block (Deaf.thens (Deaf.body RetM.not_panicked))))))))) (fun w_ _ => (by kernel_rfl)) trivial ?_
                    refine DW.done (by kernel_rfl) ?_
                    refine EX.then_code ?_
                    refine CW.region ?_
                    refine WL.q (.int .i64 (last + 1)) (by kernel_rfl) rfl (by kernel_rfl) (by kernel_rfl) ?_
                    refine WL.q (.int .i64 ((last + 1) + 1)) (by kernel_rfl) rfl (by kernel_rfl) (q_int (x := IntKind.i64.wrap ((last + 1) + 1)) (by kernel_rfl) (wrap_to (by omega) (by omega) (by omega))) ?_
                    refine WL.q (.int .i64 ((last + 1) + 1)) (by kernel_rfl) rfl (by kernel_rfl) (by kernel_rfl) ?_
                    refine WL.nil ?_
                    refine EX.in_block ?_
                    refine EX.then_code ?_
                    refine CW.seq ?_
                    refine CW.region ?_
                    refine WL.q (.pointer (some ⟨p5, 0, none⟩)) (by kernel_rfl) rfl (by kernel_rfl) (by kernel_rfl) ?_
                    obtain ⟨h44, l44, G44, r44⟩ := o43.freeze G43
                    refine WL.call (by kernel_rfl) rfl (by kernel_rfl) (by kernel_rfl) (lenT_spec (row := (row ++ [Tok.mk (last + 1) (((xs.getD k actE.dflt)).a) (((xs.getD k actE.dflt)).b)])) (G44.drop (PH.le_set _ n40)) A14 (by first | omega | exact Nat.le_trans (cutF_len (by assumption) _) (by omega) | (simp only [List.length_append, List.length_cons, List.length_nil, List.nil_append]; omega))) (Ret.elim ?_)
                    rintro w45 h45 _ l45 G45 rfl
                    refine WL.q (.slice a43 ((([] ++ row) ++ ([(Tok.mk (last + 1) (((xs.getD k actE.dflt)).a) (((xs.getD k actE.dflt)).b))])).length) k43) (by kernel_rfl) rfl (by kernel_rfl) (by kernel_rfl) ?_
                    refine WL.q (.int .i64 ((([] ++ row) ++ ([(Tok.mk (last + 1) (((xs.getD k actE.dflt)).a) (((xs.getD k actE.dflt)).b))])).length : Int)) (by kernel_rfl) rfl (by kernel_rfl) (by kernel_rfl) ?_
                    refine WL.q (.bool ((((row ++ [Tok.mk (last + 1) (((xs.getD k actE.dflt)).a) (((xs.getD k actE.dflt)).b)]).length : Int) : Int) != ((([] ++ row) ++ ([(Tok.mk (last + 1) (((xs.getD k actE.dflt)).a) (((xs.getD k actE.dflt)).b))])).length : Int))) (by kernel_rfl) rfl (by kernel_rfl) (by kernel_rfl) ?_
                    refine WL.nil ?_
                    refine EX.then_code ?_
                    refine CW.cond ((((row ++ [Tok.mk (last + 1) (((xs.getD k actE.dflt)).a) (((xs.getD k actE.dflt)).b)]).length : Int) : Int) != ((([] ++ row) ++ ([(Tok.mk (last + 1) (((xs.getD k actE.dflt)).a) (((xs.getD k actE.dflt)).b))])).length : Int)) (by kernel_rfl) (by kernel_rfl) (fun c46 => ?_) (fun c46 => ?_)
                    ·
                      skip
                      have d47 := bne_true c46
                      refine CW.seq ?_
                      refine CW.region ?_
                      refine WL.q (.bool false) (by kernel_rfl) rfl (by kernel_rfl) (by kernel_rfl) ?_
                      refine WL.nil ?_
                      refine EX.then_code ?_
                      refine CW.ret ?_
                      refine EX.ret_block ?_
                      refine EX.ret_then ?_
                      refine EX.ret_then ?_
                      refine EX.ret_block ?_
                      refine EX.ret_then ?_
                      refine EX.ret1 (v := (.bool false)) rfl (by kernel_rfl) ?_
                      first | (exfalso; omega) | (exfalso; simp only [List.length_append, List.length_cons, List.length_nil, List.nil_append] at *; omega) | (exfalso; simp_all; done)
                    ·
                      skip
                      have d48 := bne_false c46
                      refine CW.skip ?_
                      refine EX.in_block ?_
                      refine EX.then_code ?_
                      refine CW.region ?_
                      refine WL.q (.int .i64 (k : Int)) (by kernel_rfl) rfl (by kernel_rfl) (by kernel_rfl) ?_
                      refine WL.q (.int .i64 ((k + 1 : Nat) : Int)) (by kernel_rfl) rfl (by kernel_rfl) (q_int (x := IntKind.i64.wrap ((k : Int) + 1)) (by kernel_rfl) (wrap_to (by omega) (by omega) (by omega))) ?_
                      refine WL.q (.int .i64 ((k + 1 : Nat) : Int)) (by kernel_rfl) rfl (by kernel_rfl) (by kernel_rfl) ?_
                      refine WL.nil ?_
                      exact EX.then_loop ⟨k + 1, (([] ++ row) ++ ([(Tok.mk (last + 1) (((xs.getD k actE.dflt)).a) (((xs.getD k actE.dflt)).b))])), a43, k43, (last + 1)⟩ ⟨(by kernel_rfl), (by kernel_rfl), (by kernel_rfl), (by kernel_rfl), (lk_int (x := ((k + 1 : Nat) : Int)) (by kernel_rfl) (by first | omega | (dsimp only; done) | (dsimp only; omega))), trivial⟩ ⟨h45, M14, (((((l6.trans l11).trans l14).trans l17).trans l44).trans l45), G45, A14, (r44.mono ((PH.le_refl _).trans l45)), (by first | omega | (dsimp only [List.length_nil, List.length_append, List.length_cons]; omega)), (by first | omega | (dsimp only [List.length_nil, List.length_append, List.length_cons]; omega)), (by first | omega | (dsimp only [List.length_nil, List.length_append, List.length_cons]; omega)), (by first | omega | (simp only [List.length_append, List.length_cons, List.length_nil, List.nil_append]; omega))⟩ (by first | omega | (dsimp only; omega))
                ·
                  skip
                  refine DOp.new (ob := (.cells #[(.int .i64 (last + 1)), (.int .i64 (((xs.getD k actE.dflt)).a)), (.int .i64 (((xs.getD k actE.dflt)).b))] 34)) (G17.drew) rfl (by kernel_rfl) rfl (by kernel_rfl) (fun b_ => .slice (some ⟨b_, 0, none⟩) 1 1) (fun u_ => by kernel_rfl) ⟨.inr (fun T_ => le_all_alloc _ _ _ _ T_), .inr (fun T_ => le_all_alloc _ _ _ _ T_), trivial⟩ ?_
                  intro b49 w49 n49 i49 G49
                  refine DW.only 0 (by kernel_rfl) ?_
                  refine DOp.new (ob := (.cells #[] 34)) G49 rfl (by kernel_rfl) rfl (by kernel_rfl) (fun b_ => .slice (some ⟨b_, 0, none⟩) 0 0) (fun u_ => by kernel_rfl) ⟨.inr (fun T_ => le_all_alloc _ _ _ _ T_), .inr (fun T_ => le_all_alloc _ _ _ _ T_), trivial⟩ ?_
                  intro b50 w50 n50 i50 G50
                  refine DW.only 2 (by kernel_rfl) ?_
                  have o51 : Own 34 tokE (M14.set b49 (.cells #[(.int .i64 (last + 1)), (.int .i64 (((xs.getD k actE.dflt)).a)), (.int .i64 (((xs.getD k actE.dflt)).b))] 34)) ((M14.set b49 (.cells #[(.int .i64 (last + 1)), (.int .i64 (((xs.getD k actE.dflt)).a)), (.int .i64 (((xs.getD k actE.dflt)).b))] 34)).set b50 (.cells #[] 34)) (some ⟨b50, 0, none⟩) 0 ([] : List _) := Own.lit n50 (by kernel_rfl) (by kernel_rfl) (by decide)
                  refine DOp.append (e := 34) (bytes := 24) (cap := 0) (c2 := cr) (M0 := (M14.set b49 (.cells #[(.int .i64 (last + 1)), (.int .i64 (((xs.getD k actE.dflt)).a)), (.int .i64 (((xs.getD k actE.dflt)).b))] 34))) (xs := ([])) (ys := row) G50 (PH.le_refl _) o51 (PH.le_refl _) (Hr.mono (((((PH.le_refl _).trans l11).trans l14).trans l17).trans G50.imm)) rfl rfl (by kernel_rfl) (by kernel_rfl) rfl (by kernel_rfl) (by kernel_rfl) (by kernel_rfl) (by first | (simp only [maxLen, List.length_append, List.length_cons, List.length_nil]; omega) | (simp only [maxLen]; omega)) (by first | omega | (simp only [List.length_append, List.length_cons, List.length_nil]; omega)) (fun a_ k_ w_ M_ G_ o_ => ⟨.inr (fun _ => (G_.imm _ _ ((((PH.le_refl _).trans l14).trans l17) _ _ hb11))), .inr (fun _ => (G_.imm _ _ ((((PH.le_refl _).trans l14).trans l17) _ _ hb11))), trivial⟩) ?_
                  intro a53 k53 w53 M53 G53 o53 z53
                  refine DW.only 10 (by kernel_rfl) ?_
                  refine DOp.append (e := 34) (bytes := 24) (cap := k53) (c2 := 1) (M0 := (M14.set b49 (.cells #[(.int .i64 (last + 1)), (.int .i64 (((xs.getD k actE.dflt)).a)), (.int .i64 (((xs.getD k actE.dflt)).b))] 34))) (xs := ([] ++ row)) (ys := ([(Tok.mk (last + 1) (((xs.getD k actE.dflt)).a) (((xs.getD k actE.dflt)).b))])) G53 (PH.le_refl _) o53 (PH.le_refl _) (RS.blk (E := tokE) (xs := [(Tok.mk (last + 1) (((xs.getD k actE.dflt)).a) (((xs.getD k actE.dflt)).b))]) (G53.own _ _ (o53.le _ _ (PH.set_same _ _ _))) (by kernel_rfl)) rfl rfl (by kernel_rfl) (by kernel_rfl) rfl (by kernel_rfl) (by kernel_rfl) (by kernel_rfl) (by first | (simp only [maxLen, List.length_append, List.length_cons, List.length_nil]; omega) | (simp only [maxLen]; omega)) (by first | omega | (simp only [List.length_append, List.length_cons, List.length_nil]; omega)) (fun a_ k_ w_ M_ G_ o_ => ⟨.inr (fun _ => (G_.imm _ _ ((((PH.le_refl _).trans l14).trans l17) _ _ hb11))), .inr (fun _ => (G_.imm _ _ ((((PH.le_refl _).trans l14).trans l17) _ _ hb11))), trivial⟩) ?_
                  intro a54 k54 w54 M54 G54 o54 z54
                  refine DW.take (T := fun _ => True) 11 (.slice a54 ((([] ++ row) ++ ([(Tok.mk (last + 1) (((xs.getD k actE.dflt)).a) (((xs.getD k actE.dflt)).b))])).length) k54) rfl (by kernel_rfl) rfl (by kernel_rfl) (.inl fun _ => trivial) (by kernel_rfl) (Deaf.thens (Deaf.block (Deaf.thens (Deaf.block (Deaf.thens (Deaf.thens (Deaf.block (Deaf.thens (Deaf.body RetM.not_panicked))))))))) (fun w_ _ => (by kernel_rfl)) trivial ?_
                  refine DW.done (by kernel_rfl) ?_
                  refine EX.then_code ?_
                  refine CW.region ?_
                  refine WL.q (.int .i64 (last + 1)) (by kernel_rfl) rfl (by kernel_rfl) (by kernel_rfl) ?_
                  refine WL.q (.int .i64 ((last + 1) + 1)) (by kernel_rfl) rfl (by kernel_rfl) (q_int (x := IntKind.i64.wrap ((last + 1) + 1)) (by kernel_rfl) (wrap_to (by omega) (by omega) (by omega))) ?_
                  refine WL.q (.int .i64 ((last + 1) + 1)) (by kernel_rfl) rfl (by kernel_rfl) (by kernel_rfl) ?_
                  refine WL.nil ?_
                  refine EX.in_block ?_
                  refine EX.then_code ?_
                  refine CW.seq ?_
                  refine CW.region ?_
                  refine WL.q (.pointer (some ⟨p5, 0, none⟩)) (by kernel_rfl) rfl (by kernel_rfl) (by kernel_rfl) ?_
                  obtain ⟨h55, l55, G55, r55⟩ := o54.freeze G54
                  refine WL.call (by kernel_rfl) rfl (by kernel_rfl) (by kernel_rfl) (lenT_spec (row := (row ++ [Tok.mk (last + 1) (((xs.getD k actE.dflt)).a) (((xs.getD k actE.dflt)).b)])) (G55.drop (PH.le_set _ n49)) A14 (by first | omega | exact Nat.le_trans (cutF_len (by assumption) _) (by omega) | (simp only [List.length_append, List.length_cons, List.length_nil, List.nil_append]; omega))) (Ret.elim ?_)
                  rintro w56 h56 _ l56 G56 rfl
                  refine WL.q (.slice a54 ((([] ++ row) ++ ([(Tok.mk (last + 1) (((xs.getD k actE.dflt)).a) (((xs.getD k actE.dflt)).b))])).length) k54) (by kernel_rfl) rfl (by kernel_rfl) (by kernel_rfl) ?_
                  refine WL.q (.int .i64 ((([] ++ row) ++ ([(Tok.mk (last + 1) (((xs.getD k actE.dflt)).a) (((xs.getD k actE.dflt)).b))])).length : Int)) (by kernel_rfl) rfl (by kernel_rfl) (by kernel_rfl) ?_
                  refine WL.q (.bool ((((row ++ [Tok.mk (last + 1) (((xs.getD k actE.dflt)).a) (((xs.getD k actE.dflt)).b)]).length : Int) : Int) != ((([] ++ row) ++ ([(Tok.mk (last + 1) (((xs.getD k actE.dflt)).a) (((xs.getD k actE.dflt)).b))])).length : Int))) (by kernel_rfl) rfl (by kernel_rfl) (by kernel_rfl) ?_
                  refine WL.nil ?_
                  refine EX.then_code ?_
                  refine CW.cond ((((row ++ [Tok.mk (last + 1) (((xs.getD k actE.dflt)).a) (((xs.getD k actE.dflt)).b)]).length : Int) : Int) != ((([] ++ row) ++ ([(Tok.mk (last + 1) (((xs.getD k actE.dflt)).a) (((xs.getD k actE.dflt)).b))])).length : Int)) (by kernel_rfl) (by kernel_rfl) (fun c57 => ?_) (fun c57 => ?_)
                  ·
                    skip
                    have d58 := bne_true c57
                    refine CW.seq ?_
                    refine CW.region ?_
                    refine WL.q (.bool false) (by kernel_rfl) rfl (by kernel_rfl) (by kernel_rfl) ?_
                    refine WL.nil ?_
                    refine EX.then_code ?_
                    refine CW.ret ?_
                    refine EX.ret_block ?_
                    refine EX.ret_then ?_
                    refine EX.ret_then ?_
                    refine EX.ret_block ?_
                    refine EX.ret_then ?_
                    refine EX.ret1 (v := (.bool false)) rfl (by kernel_rfl) ?_
                    first | (exfalso; omega) | (exfalso; simp only [List.length_append, List.length_cons, List.length_nil, List.nil_append] at *; omega) | (exfalso; simp_all; done)
                  ·
                    skip
                    have d59 := bne_false c57
                    refine CW.skip ?_
                    refine EX.in_block ?_
                    refine EX.then_code ?_
                    refine CW.region ?_
                    refine WL.q (.int .i64 (k : Int)) (by kernel_rfl) rfl (by kernel_rfl) (by kernel_rfl) ?_
                    refine WL.q (.int .i64 ((k + 1 : Nat) : Int)) (by kernel_rfl) rfl (by kernel_rfl) (q_int (x := IntKind.i64.wrap ((k : Int) + 1)) (by kernel_rfl) (wrap_to (by omega) (by omega) (by omega))) ?_
                    refine WL.q (.int .i64 ((k + 1 : Nat) : Int)) (by kernel_rfl) rfl (by kernel_rfl) (by kernel_rfl) ?_
                    refine WL.nil ?_
                    exact EX.then_loop ⟨k + 1, (([] ++ row) ++ ([(Tok.mk (last + 1) (((xs.getD k actE.dflt)).a) (((xs.getD k actE.dflt)).b))])), a54, k54, (last + 1)⟩ ⟨(by kernel_rfl), (by kernel_rfl), (by kernel_rfl), (by kernel_rfl), (lk_int (x := ((k + 1 : Nat) : Int)) (by kernel_rfl) (by first | omega | (dsimp only; done) | (dsimp only; omega))), trivial⟩ ⟨h56, M14, (((((l6.trans l11).trans l14).trans l17).trans l55).trans l56), G56, A14, (r55.mono ((PH.le_refl _).trans l56)), (by first | omega | (dsimp only [List.length_nil, List.length_append, List.length_cons]; omega)), (by first | omega | (dsimp only [List.length_nil, List.length_append, List.length_cons]; omega)), (by first | omega | (dsimp only [List.length_nil, List.length_append, List.length_cons]; omega)), (by first | omega | (simp only [List.length_append, List.length_cons, List.length_nil, List.nil_append]; omega))⟩ (by first | omega | (dsimp only; omega))
          ·
            skip
            have d60 := bne_false c15
            refine WL.know 54 (.bool false) (x := .bool ((((xs.getD k actE.dflt)).a : Int) != 0)) (by kernel_rfl) (congrArg Value.bool c15) ?_
            refine WL.skip (by kernel_rfl) rfl (by kernel_rfl) ?_
            refine WL.skip (by kernel_rfl) rfl (by kernel_rfl) ?_
            refine WL.skip (by kernel_rfl) rfl (by kernel_rfl) ?_
            refine WL.skip (by kernel_rfl) rfl (by kernel_rfl) ?_
            refine WL.skip (by kernel_rfl) rfl (by kernel_rfl) ?_
            refine WL.q (.bool false) (by kernel_rfl) rfl (by kernel_rfl) (by kernel_rfl) ?_
            refine WL.nil ?_
            refine EX.then_code ?_
            refine CW.cond_f (by kernel_rfl) (by kernel_rfl) ?_
            refine CW.skip ?_
            refine EX.then_code ?_
            refine CW.seq ?_
            refine CW.seq ?_
            refine CW.region ?_
            refine WL.q (.int .i64 0) (by kernel_rfl) rfl (by kernel_rfl) (by kernel_rfl) ?_
            refine WL.q (.bool false) (by kernel_rfl) rfl (by kernel_rfl) (by kernel_rfl) ?_
            refine WL.q (.bool false) (by kernel_rfl) rfl (by kernel_rfl) (by kernel_rfl) ?_
            refine WL.q (.int .i64 (last + 1)) (by kernel_rfl) rfl (by kernel_rfl) (by kernel_rfl) ?_
            refine WL.q (.int .i64 (last + 1)) (by kernel_rfl) rfl (by kernel_rfl) (by kernel_rfl) ?_
            refine WL.q (.bool (((last + 1) : Int) != (last + 1))) (by kernel_rfl) rfl (by kernel_rfl) (by kernel_rfl) ?_
            refine WL.q (.bool (((last + 1) : Int) != (last + 1))) (by kernel_rfl) rfl (by kernel_rfl) (by kernel_rfl) ?_
            refine WL.nil ?_
            refine EX.then_code ?_
            refine CW.cond (((last + 1) : Int) != (last + 1)) (by kernel_rfl) (by kernel_rfl) (fun c61 => ?_) (fun c61 => ?_)
            ·
              skip
              have d62 := bne_true c61
              refine CW.seq ?_
              refine CW.region ?_
              refine WL.q (.bool false) (by kernel_rfl) rfl (by kernel_rfl) (by kernel_rfl) ?_
              refine WL.nil ?_
              refine EX.then_code ?_
              refine CW.ret ?_
              refine EX.ret_then ?_
              refine EX.ret_block ?_
              refine EX.ret_then ?_
              refine EX.ret_block ?_
              refine EX.ret_then ?_
              refine EX.ret_then ?_
              refine EX.ret_block ?_
              refine EX.ret_then ?_
              refine EX.ret1 (v := (.bool false)) rfl (by kernel_rfl) ?_
              first | (exfalso; omega) | (exfalso; simp only [List.length_append, List.length_cons, List.length_nil, List.nil_append] at *; omega) | (exfalso; simp_all; done)
            ·
              skip
              have d63 := bne_false c61
              refine CW.skip ?_
              refine EX.then_code ?_
              refine CW.seq ?_
              refine CW.draw (by kernel_rfl) [(5, fun w_ => PH.all w_ b9 = some (.cells #[(.int .i64 (((xs.getD k actE.dflt)).op)), (.int .i64 (((xs.getD k actE.dflt)).a)), (.int .i64 (((xs.getD k actE.dflt)).b))] 28 (0, 0))), (7, fun w_ => PH.all w_ b9 = some (.cells #[(.int .i64 (((xs.getD k actE.dflt)).op)), (.int .i64 (((xs.getD k actE.dflt)).a)), (.int .i64 (((xs.getD k actE.dflt)).b))] 28 (0, 0)))] ?_
              refine DW.take (T := fun _ => True) 1 (.slice ar row.length cr) rfl (by kernel_rfl) rfl (by kernel_rfl) (.inl fun _ => trivial) (by kernel_rfl) (Deaf.thens (Deaf.block (Deaf.thens (Deaf.block (Deaf.thens (Deaf.thens (Deaf.block (Deaf.thens (Deaf.body RetM.not_panicked))))))))) (fun w_ _ => (by kernel_rfl)) trivial ?_
              refine DW.take (T := fun _ => True) 3 (.int .i64 (last + 1)) rfl (by kernel_rfl) rfl (by kernel_rfl) (.inl fun _ => trivial) (by kernel_rfl) (Deaf.thens (Deaf.block (Deaf.thens (Deaf.block (Deaf.thens (Deaf.thens (Deaf.block (Deaf.thens (Deaf.body RetM.not_panicked))))))))) (fun w_ _ => (by kernel_rfl)) trivial ?_
              refine DW.take (T := fun _ => True) 4 (.pointer (some ⟨b9, 1, none⟩)) rfl (by kernel_rfl) rfl (by kernel_rfl) (.inl fun _ => trivial) (by kernel_rfl) (Deaf.thens (Deaf.block (Deaf.thens (Deaf.block (Deaf.thens (Deaf.thens (Deaf.block (Deaf.thens (Deaf.body RetM.not_panicked))))))))) (fun w_ _ => (by kernel_rfl)) trivial ?_
              refine DW.take (T := fun w_ => PH.all w_ b9 = some (.cells #[(.int .i64 (((xs.getD k actE.dflt)).op)), (.int .i64 (((xs.getD k actE.dflt)).a)), (.int .i64 (((xs.getD k actE.dflt)).b))] 28 (0, 0))) 5 (.int .i64 (((xs.getD k actE.dflt)).a)) rfl (by kernel_rfl) rfl (by kernel_rfl) (.inr (by simp only [List.mem_cons, true_or, or_true])) (by kernel_rfl) (Deaf.thens (Deaf.block (Deaf.thens (Deaf.block (Deaf.thens (Deaf.thens (Deaf.block (Deaf.thens (Deaf.body RetM.not_panicked))))))))) (fun w_ T_ => (q_load (off := 1) rfl (by kernel_rfl) (by kernel_rfl) T_ (by kernel_rfl))) ((G14.drew).imm _ _ (((PH.le_refl _).trans l14) _ _ hb11)) ?_
              refine DW.take (T := fun _ => True) 6 (.pointer (some ⟨b9, 2, none⟩)) rfl (by kernel_rfl) rfl (by kernel_rfl) (.inl fun _ => trivial) (by kernel_rfl) (Deaf.thens (Deaf.block (Deaf.thens (Deaf.block (Deaf.thens (Deaf.thens (Deaf.block (Deaf.thens (Deaf.body RetM.not_panicked))))))))) (fun w_ _ => (by kernel_rfl)) trivial ?_
              refine DW.take (T := fun w_ => PH.all w_ b9 = some (.cells #[(.int .i64 (((xs.getD k actE.dflt)).op)), (.int .i64 (((xs.getD k actE.dflt)).a)), (.int .i64 (((xs.getD k actE.dflt)).b))] 28 (0, 0))) 7 (.int .i64 (((xs.getD k actE.dflt)).b)) rfl (by kernel_rfl) rfl (by kernel_rfl) (.inr (by simp only [List.mem_cons, true_or, or_true])) (by kernel_rfl) (Deaf.thens (Deaf.block (Deaf.thens (Deaf.block (Deaf.thens (Deaf.thens (Deaf.block (Deaf.thens (Deaf.body RetM.not_panicked))))))))) (fun w_ T_ => (q_load (off := 2) rfl (by kernel_rfl) (by kernel_rfl) T_ (by kernel_rfl))) ((G14.drew).imm _ _ (((PH.le_refl _).trans l14) _ _ hb11)) ?_
              refine DW.take (T := fun _ => True) 8 (.agg #[(.int .i64 (last + 1)), (.int .i64 (((xs.getD k actE.dflt)).a)), (.int .i64 (((xs.getD k actE.dflt)).b))]) rfl (by kernel_rfl) rfl (by kernel_rfl) (.inl fun _ => trivial) (by kernel_rfl) (Deaf.thens (Deaf.block (Deaf.thens (Deaf.block (Deaf.thens (Deaf.thens (Deaf.block (Deaf.thens (Deaf.body RetM.not_panicked))))))))) (fun w_ _ => (by kernel_rfl)) trivial ?_
              refine DW.two 0 9 (by kernel_rfl) ?_ ?_
              ·
                skip
                refine DOp.new (ob := (.cells #[] 34)) (G14.drew) rfl (by kernel_rfl) rfl (by kernel_rfl) (fun b_ => .slice (some ⟨b_, 0, none⟩) 0 0) (fun u_ => by kernel_rfl) ⟨.inr (fun T_ => le_all_alloc _ _ _ _ T_), .inr (fun T_ => le_all_alloc _ _ _ _ T_), trivial⟩ ?_
                intro b65 w65 n65 i65 G65
                refine DW.two 2 9 (by kernel_rfl) ?_ ?_
                ·
                  skip
                  have o66 : Own 34 tokE M14 (M14.set b65 (.cells #[] 34)) (some ⟨b65, 0, none⟩) 0 ([] : List _) := Own.lit n65 (by kernel_rfl) (by kernel_rfl) (by decide)
                  refine DOp.append (e := 34) (bytes := 24) (cap := 0) (c2 := cr) (M0 := M14) (xs := ([])) (ys := row) G65 (PH.le_refl _) o66 (PH.le_refl _) (Hr.mono ((((PH.le_refl _).trans l11).trans l14).trans G65.imm)) rfl rfl (by kernel_rfl) (by kernel_rfl) rfl (by kernel_rfl) (by kernel_rfl) (by kernel_rfl) (by first | (simp only [maxLen, List.length_append, List.length_cons, List.length_nil]; omega) | (simp only [maxLen]; omega)) (by first | omega | (simp only [List.length_append, List.length_cons, List.length_nil]; omega)) (fun a_ k_ w_ M_ G_ o_ => ⟨.inr (fun _ => (G_.imm _ _ (((PH.le_refl _).trans l14) _ _ hb11))), .inr (fun _ => (G_.imm _ _ (((PH.le_refl _).trans l14) _ _ hb11))), trivial⟩) ?_
                  intro a68 k68 w68 M68 G68 o68 z68
                  refine DW.only 9 (by kernel_rfl) ?_
                  refine DOp.new (ob := (.cells #[(.int .i64 (last + 1)), (.int .i64 (((xs.getD k actE.dflt)).a)), (.int .i64 (((xs.getD k actE.dflt)).b))] 34)) G68 rfl (by kernel_rfl) rfl (by kernel_rfl) (fun b_ => .slice (some ⟨b_, 0, none⟩) 1 1) (fun u_ => by kernel_rfl) ⟨.inr (fun T_ => le_all_alloc _ _ _ _ T_), .inr (fun T_ => le_all_alloc _ _ _ _ T_), trivial⟩ ?_
                  intro b69 w69 n69 i69 G69
                  refine DW.only 10 (by kernel_rfl) ?_
                  refine DOp.append (e := 34) (bytes := 24) (cap := k68) (c2 := 1) (M0 := M14) (xs := ([] ++ row)) (ys := ([(Tok.mk (last + 1) (((xs.getD k actE.dflt)).a) (((xs.getD k actE.dflt)).b))])) G69 (PH.le_set _ n69) o68 (PH.le_refl _) (RS.blk (E := tokE) (xs := [(Tok.mk (last + 1) (((xs.getD k actE.dflt)).a) (((xs.getD k actE.dflt)).b))]) (G69.own _ _ (PH.set_same _ _ _)) (by kernel_rfl)) rfl rfl (by kernel_rfl) (by kernel_rfl) rfl (by kernel_rfl) (by kernel_rfl) (by kernel_rfl) (by first | (simp only [maxLen, List.length_append, List.length_cons, List.length_nil]; omega) | (simp only [maxLen]; omega)) (by first | omega | (simp only [List.length_append, List.length_cons, List.length_nil]; omega)) (fun a_ k_ w_ M_ G_ o_ => ⟨.inr (fun _ => (G_.imm _ _ (((PH.le_refl _).trans l14) _ _ hb11))), .inr (fun _ => (G_.imm _ _ (((PH.le_refl _).trans l14) _ _ hb11))), trivial⟩) ?_
                  intro a70 k70 w70 M70 G70 o70 z70
                  refine DW.take (T := fun _ => True) 11 (.slice a70 ((([] ++ row) ++ ([(Tok.mk (last + 1) (((xs.getD k actE.dflt)).a) (((xs.getD k actE.dflt)).b))])).length) k70) rfl (by kernel_rfl) rfl (by kernel_rfl) (.inl fun _ => trivial) (by kernel_rfl) (Deaf.thens (Deaf.block (Deaf.thens (Deaf.block (Deaf.thens (Deaf.thens (Deaf.block (Deaf.thens (Deaf.body RetM.not_panicked))))))))) (fun w_ _ => (by kernel_rfl)) trivial ?_
                  refine DW.done (by kernel_rfl) ?_
                  refine EX.then_code ?_
                  refine CW.region ?_
                  refine WL.q (.int .i64 (last + 1)) (by kernel_rfl) rfl (by kernel_rfl) (by kernel_rfl) ?_
                  refine WL.q (.int .i64 ((last + 1) + 1)) (by kernel_rfl) rfl (by kernel_rfl) (q_int (x := IntKind.i64.wrap ((last + 1) + 1)) (by kernel_rfl) (wrap_to (by omega) (by omega) (by omega))) ?_
                  refine WL.q (.int .i64 ((last + 1) + 1)) (by kernel_rfl) rfl (by kernel_rfl) (by kernel_rfl) ?_
                  refine WL.nil ?_
                  refine EX.in_block ?_
                  refine EX.then_code ?_
                  refine CW.seq ?_
                  refine CW.region ?_
                  refine WL.q (.pointer (some ⟨p5, 0, none⟩)) (by kernel_rfl) rfl (by kernel_rfl) (by kernel_rfl) ?_
                  obtain ⟨h71, l71, G71, r71⟩ := o70.freeze G70
                  refine WL.call (by kernel_rfl) rfl (by kernel_rfl) (by kernel_rfl) (lenT_spec (row := (row ++ [Tok.mk (last + 1) (((xs.getD k actE.dflt)).a) (((xs.getD k actE.dflt)).b)])) G71 A14 (by first | omega | exact Nat.le_trans (cutF_len (by assumption) _) (by omega) | (simp only [List.length_append, List.length_cons, List.length_nil, List.nil_append]; omega))) (Ret.elim ?_)
                  rintro w72 h72 _ l72 G72 rfl
                  refine WL.q (.slice a70 ((([] ++ row) ++ ([(Tok.mk (last + 1) (((xs.getD k actE.dflt)).a) (((xs.getD k actE.dflt)).b))])).length) k70) (by kernel_rfl) rfl (by kernel_rfl) (by kernel_rfl) ?_
                  refine WL.q (.int .i64 ((([] ++ row) ++ ([(Tok.mk (last + 1) (((xs.getD k actE.dflt)).a) (((xs.getD k actE.dflt)).b))])).length : Int)) (by kernel_rfl) rfl (by kernel_rfl) (by kernel_rfl) ?_
                  refine WL.q (.bool ((((row ++ [Tok.mk (last + 1) (((xs.getD k actE.dflt)).a) (((xs.getD k actE.dflt)).b)]).length : Int) : Int) != ((([] ++ row) ++ ([(Tok.mk (last + 1) (((xs.getD k actE.dflt)).a) (((xs.getD k actE.dflt)).b))])).length : Int))) (by kernel_rfl) rfl (by kernel_rfl) (by kernel_rfl) ?_
                  refine WL.nil ?_
                  refine EX.then_code ?_
                  refine CW.cond ((((row ++ [Tok.mk (last + 1) (((xs.getD k actE.dflt)).a) (((xs.getD k actE.dflt)).b)]).length : Int) : Int) != ((([] ++ row) ++ ([(Tok.mk (last + 1) (((xs.getD k actE.dflt)).a) (((xs.getD k actE.dflt)).b))])).length : Int)) (by kernel_rfl) (by kernel_rfl) (fun c73 => ?_) (fun c73 => ?_)
                  ·
                    skip
                    have d74 := bne_true c73
                    refine CW.seq ?_
                    refine CW.region ?_
                    refine WL.q (.bool false) (by kernel_rfl) rfl (by kernel_rfl) (by kernel_rfl) ?_
                    refine WL.nil ?_
                    refine EX.then_code ?_
                    refine CW.ret ?_
                    refine EX.ret_block ?_
                    refine EX.ret_then ?_
                    refine EX.ret_then ?_
                    refine EX.ret_block ?_
                    refine EX.ret_then ?_
                    refine EX.ret1 (v := (.bool false)) rfl (by kernel_rfl) ?_
                    first | (exfalso; omega) | (exfalso; simp only [List.length_append, List.length_cons, List.length_nil, List.nil_append] at *; omega) | (exfalso; simp_all; done)
                  ·
                    skip
                    have d75 := bne_false c73
                    refine CW.skip ?_
                    refine EX.in_block ?_
                    refine EX.then_code ?_
                    refine CW.region ?_
                    refine WL.q (.int .i64 (k : Int)) (by kernel_rfl) rfl (by kernel_rfl) (by kernel_rfl) ?_
                    refine WL.q (.int .i64 ((k + 1 : Nat) : Int)) (by kernel_rfl) rfl (by kernel_rfl) (q_int (x := IntKind.i64.wrap ((k : Int) + 1)) (by kernel_rfl) (wrap_to (by omega) (by omega) (by omega))) ?_
                    refine WL.q (.int .i64 ((k + 1 : Nat) : Int)) (by kernel_rfl) rfl (by kernel_rfl) (by kernel_rfl) ?_
                    refine WL.nil ?_
                    exact EX.then_loop ⟨k + 1, (([] ++ row) ++ ([(Tok.mk (last + 1) (((xs.getD k actE.dflt)).a) (((xs.getD k actE.dflt)).b))])), a70, k70, (last + 1)⟩ ⟨(by kernel_rfl), (by kernel_rfl), (by kernel_rfl), (by kernel_rfl), (lk_int (x := ((k + 1 : Nat) : Int)) (by kernel_rfl) (by first | omega | (dsimp only; done) | (dsimp only; omega))), trivial⟩ ⟨h72, M14, ((((l6.trans l11).trans l14).trans l71).trans l72), G72, A14, (r71.mono ((PH.le_refl _).trans l72)), (by first | omega | (dsimp only [List.length_nil, List.length_append, List.length_cons]; omega)), (by first | omega | (dsimp only [List.length_nil, List.length_append, List.length_cons]; omega)), (by first | omega | (dsimp only [List.length_nil, List.length_append, List.length_cons]; omega)), (by first | omega | (simp only [List.length_append, List.length_cons, List.length_nil, List.nil_append]; omega))⟩ (by first | omega | (dsimp only; omega))
                ·
                  skip
                  refine DOp.new (ob := (.cells #[(.int .i64 (last + 1)), (.int .i64 (((xs.getD k actE.dflt)).a)), (.int .i64 (((xs.getD k actE.dflt)).b))] 34)) G65 rfl (by kernel_rfl) rfl (by kernel_rfl) (fun b_ => .slice (some ⟨b_, 0, none⟩) 1 1) (fun u_ => by kernel_rfl) ⟨.inr (fun T_ => le_all_alloc _ _ _ _ T_), .inr (fun T_ => le_all_alloc _ _ _ _ T_), trivial⟩ ?_
                  intro b76 w76 n76 i76 G76
                  refine DW.only 2 (by kernel_rfl) ?_
                  have o77 : Own 34 tokE M14 (M14.set b65 (.cells #[] 34)) (some ⟨b65, 0, none⟩) 0 ([] : List _) := Own.lit n65 (by kernel_rfl) (by kernel_rfl) (by decide)
                  have n79 := none_of_le o77.le n76
                  have o80 := Own.under (o := (.cells #[(.int .i64 (last + 1)), (.int .i64 (((xs.getD k actE.dflt)).a)), (.int .i64 (((xs.getD k actE.dflt)).b))] 34)) n76 o77
                  refine DOp.append (e := 34) (bytes := 24) (cap := 0) (c2 := cr) (M0 := (M14.set b76 (.cells #[(.int .i64 (last + 1)), (.int .i64 (((xs.getD k actE.dflt)).a)), (.int .i64 (((xs.getD k actE.dflt)).b))] 34))) (xs := ([])) (ys := row) G76 (PH.le_refl _) o80 (PH.le_refl _) (Hr.mono ((((PH.le_refl _).trans l11).trans l14).trans G76.imm)) rfl rfl (by kernel_rfl) (by kernel_rfl) rfl (by kernel_rfl) (by kernel_rfl) (by kernel_rfl) (by first | (simp only [maxLen, List.length_append, List.length_cons, List.length_nil]; omega) | (simp only [maxLen]; omega)) (by first | omega | (simp only [List.length_append, List.length_cons, List.length_nil]; omega)) (fun a_ k_ w_ M_ G_ o_ => ⟨.inr (fun _ => (G_.imm _ _ (((PH.le_refl _).trans l14) _ _ hb11))), .inr (fun _ => (G_.imm _ _ (((PH.le_refl _).trans l14) _ _ hb11))), trivial⟩) ?_
                  intro a81 k81 w81 M81 G81 o81 z81
                  refine DW.only 10 (by kernel_rfl) ?_
                  refine DOp.append (e := 34) (bytes := 24) (cap := k81) (c2 := 1) (M0 := (M14.set b76 (.cells #[(.int .i64 (last + 1)), (.int .i64 (((xs.getD k actE.dflt)).a)), (.int .i64 (((xs.getD k actE.dflt)).b))] 34))) (xs := ([] ++ row)) (ys := ([(Tok.mk (last + 1) (((xs.getD k actE.dflt)).a) (((xs.getD k actE.dflt)).b))])) G81 (PH.le_refl _) o81 (PH.le_refl _) (RS.blk (E := tokE) (xs := [(Tok.mk (last + 1) (((xs.getD k actE.dflt)).a) (((xs.getD k actE.dflt)).b))]) (G81.own _ _ (o81.le _ _ (PH.set_same _ _ _))) (by kernel_rfl)) rfl rfl (by kernel_rfl) (by kernel_rfl) rfl (by kernel_rfl) (by kernel_rfl) (by kernel_rfl) (by first | (simp only [maxLen, List.length_append, List.length_cons, List.length_nil]; omega) | (simp only [maxLen]; omega)) (by first | omega | (simp only [List.length_append, List.length_cons, List.length_nil]; omega)) (fun a_ k_ w_ M_ G_ o_ => ⟨.inr (fun _ => (G_.imm _ _ (((PH.le_refl _).trans l14) _ _ hb11))), .inr (fun _ => (G_.imm _ _ (((PH.le_refl _).trans l14) _ _ hb11))), trivial⟩) ?_
                  intro a82 k82 w82 M82 G82 o82 z82
                  refine DW.take (T := fun _ => True) 11 (.slice a82 ((([] ++ row) ++ ([(Tok.mk (last + 1) (((xs.getD k actE.dflt)).a) (((xs.getD k actE.dflt)).b))])).length) k82) rfl (by kernel_rfl) rfl (by kernel_rfl) (.inl fun _ => trivial) (by kernel_rfl) (Deaf.thens (Deaf.block (Deaf.thens (Deaf.block (Deaf.thens (Deaf.thens (Deaf.block (Deaf.thens (Deaf.body RetM.not_panicked))))))))) (fun w_ _ => (by kernel_rfl)) trivial ?_
                  refine DW.done (by kernel_rfl) ?_
                  refine EX.then_code ?_
                  refine CW.region ?_
                  refine WL.q (.int .i64 (last + 1)) (by kernel_rfl) rfl (by kernel_rfl) (by kernel_rfl) ?_
                  refine WL.q (.int .i64 ((last + 1) + 1)) (by kernel_rfl) rfl (by kernel_rfl) (q_int (x := IntKind.i64.wrap ((last + 1) + 1)) (by kernel_rfl) (wrap_to (by omega) (by omega) (by omega))) ?_
                  refine WL.q (.int .i64 ((last + 1) + 1)) (by kernel_rfl) rfl (by kernel_rfl) (by kernel_rfl) ?_
                  refine WL.nil ?_
                  refine EX.in_block ?_
                  refine EX.then_code ?_
                  refine CW.seq ?_
                  refine CW.region ?_
                  refine WL.q (.pointer (some ⟨p5, 0, none⟩)) (by kernel_rfl) rfl (by kernel_rfl) (by kernel_rfl) ?_
                  obtain ⟨h83, l83, G83, r83⟩ := o82.freeze G82
                  refine WL.call (by kernel_rfl) rfl (by kernel_rfl) (by kernel_rfl) (lenT_spec (row := (row ++ [Tok.mk (last + 1) (((xs.getD k actE.dflt)).a) (((xs.getD k actE.dflt)).b)])) (G83.drop (PH.le_set _ n79)) A14 (by first | omega | exact Nat.le_trans (cutF_len (by assumption) _) (by omega) | (simp only [List.length_append, List.length_cons, List.length_nil, List.nil_append]; omega))) (Ret.elim ?_)
                  rintro w84 h84 _ l84 G84 rfl
                  refine WL.q (.slice a82 ((([] ++ row) ++ ([(Tok.mk (last + 1) (((xs.getD k actE.dflt)).a) (((xs.getD k actE.dflt)).b))])).length) k82) (by kernel_rfl) rfl (by kernel_rfl) (by kernel_rfl) ?_
                  refine WL.q (.int .i64 ((([] ++ row) ++ ([(Tok.mk (last + 1) (((xs.getD k actE.dflt)).a) (((xs.getD k actE.dflt)).b))])).length : Int)) (by kernel_rfl) rfl (by kernel_rfl) (by kernel_rfl) ?_
                  refine WL.q (.bool ((((row ++ [Tok.mk (last + 1) (((xs.getD k actE.dflt)).a) (((xs.getD k actE.dflt)).b)]).length : Int) : Int) != ((([] ++ row) ++ ([(Tok.mk (last + 1) (((xs.getD k actE.dflt)).a) (((xs.getD k actE.dflt)).b))])).length : Int))) (by kernel_rfl) rfl (by kernel_rfl) (by kernel_rfl) ?_
                  refine WL.nil ?_
                  refine EX.then_code ?_
                  refine CW.cond ((((row ++ [Tok.mk (last + 1) (((xs.getD k actE.dflt)).a) (((xs.getD k actE.dflt)).b)]).length : Int) : Int) != ((([] ++ row) ++ ([(Tok.mk (last + 1) (((xs.getD k actE.dflt)).a) (((xs.getD k actE.dflt)).b))])).length : Int)) (by kernel_rfl) (by kernel_rfl) (fun c85 => ?_) (fun c85 => ?_)
                  ·
                    skip
                    have d86 := bne_true c85
                    refine CW.seq ?_
                    refine CW.region ?_
                    refine WL.q (.bool false) (by kernel_rfl) rfl (by kernel_rfl) (by kernel_rfl) ?_
                    refine WL.nil ?_
                    refine EX.then_code ?_
                    refine CW.ret ?_
                    refine EX.ret_block ?_
                    refine EX.ret_then ?_
                    refine EX.ret_then ?_
                    refine EX.ret_block ?_
                    refine EX.ret_then ?_
                    refine EX.ret1 (v := (.bool false)) rfl (by kernel_rfl) ?_
                    first | (exfalso; omega) | (exfalso; simp only [List.length_append, List.length_cons, List.length_nil, List.nil_append] at *; omega) | (exfalso; simp_all; done)
                  ·
                    skip
                    have d87 := bne_false c85
                    refine CW.skip ?_
                    refine EX.in_block ?_
                    refine EX.then_code ?_
                    refine CW.region ?_
                    refine WL.q (.int .i64 (k : Int)) (by kernel_rfl) rfl (by kernel_rfl) (by kernel_rfl) ?_
                    refine WL.q (.int .i64 ((k + 1 : Nat) : Int)) (by kernel_rfl) rfl (by kernel_rfl) (q_int (x := IntKind.i64.wrap ((k : Int) + 1)) (by kernel_rfl) (wrap_to (by omega) (by omega) (by omega))) ?_
                    refine WL.q (.int .i64 ((k + 1 : Nat) : Int)) (by kernel_rfl) rfl (by kernel_rfl) (by kernel_rfl) ?_
                    refine WL.nil ?_
                    exact EX.then_loop ⟨k + 1, (([] ++ row) ++ ([(Tok.mk (last + 1) (((xs.getD k actE.dflt)).a) (((xs.getD k actE.dflt)).b))])), a82, k82, (last + 1)⟩ ⟨(by kernel_rfl), (by kernel_rfl), (by kernel_rfl), (by kernel_rfl), (lk_int (x := ((k + 1 : Nat) : Int)) (by kernel_rfl) (by first | omega | (dsimp only; done) | (dsimp only; omega))), trivial⟩ ⟨h84, M14, ((((l6.trans l11).trans l14).trans l83).trans l84), G84, A14, (r83.mono ((PH.le_refl _).trans l84)), (by first | omega | (dsimp only [List.length_nil, List.length_append, List.length_cons]; omega)), (by first | omega | (dsimp only [List.length_nil, List.length_append, List.length_cons]; omega)), (by first | omega | (dsimp only [List.length_nil, List.length_append, List.length_cons]; omega)), (by first | omega | (simp only [List.length_append, List.length_cons, List.length_nil, List.nil_append]; omega))⟩ (by first | omega | (dsimp only; omega))
              ·
                skip
                refine DOp.new (ob := (.cells #[(.int .i64 (last + 1)), (.int .i64 (((xs.getD k actE.dflt)).a)), (.int .i64 (((xs.getD k actE.dflt)).b))] 34)) (G14.drew) rfl (by kernel_rfl) rfl (by kernel_rfl) (fun b_ => .slice (some ⟨b_, 0, none⟩) 1 1) (fun u_ => by kernel_rfl) ⟨.inr (fun T_ => le_all_alloc _ _ _ _ T_), .inr (fun T_ => le_all_alloc _ _ _ _ T_), trivial⟩ ?_
                intro b88 w88 n88 i88 G88
                refine DW.only 0 (by kernel_rfl) ?_
                refine DOp.new (ob := (.cells #[] 34)) G88 rfl (by kernel_rfl) rfl (by kernel_rfl) (fun b_ => .slice (some ⟨b_, 0, none⟩) 0 0) (fun u_ => by kernel_rfl) ⟨.inr (fun T_ => le_all_alloc _ _ _ _ T_), .inr (fun T_ => le_all_alloc _ _ _ _ T_), trivial⟩ ?_
                intro b89 w89 n89 i89 G89
                refine DW.only 2 (by kernel_rfl) ?_
                have o90 : Own 34 tokE (M14.set b88 (.cells #[(.int .i64 (last + 1)), (.int .i64 (((xs.getD k actE.dflt)).a)), (.int .i64 (((xs.getD k actE.dflt)).b))] 34)) ((M14.set b88 (.cells #[(.int .i64 (last + 1)), (.int .i64 (((xs.getD k actE.dflt)).a)), (.int .i64 (((xs.getD k actE.dflt)).b))] 34)).set b89 (.cells #[] 34)) (some ⟨b89, 0, none⟩) 0 ([] : List _) := Own.lit n89 (by kernel_rfl) (by kernel_rfl) (by decide)
                refine DOp.append (e := 34) (bytes := 24) (cap := 0) (c2 := cr) (M0 := (M14.set b88 (.cells #[(.int .i64 (last + 1)), (.int .i64 (((xs.getD k actE.dflt)).a)), (.int .i64 (((xs.getD k actE.dflt)).b))] 34))) (xs := ([])) (ys := row) G89 (PH.le_refl _) o90 (PH.le_refl _) (Hr.mono ((((PH.le_refl _).trans l11).trans l14).trans G89.imm)) rfl rfl (by kernel_rfl) (by kernel_rfl) rfl (by kernel_rfl) (by kernel_rfl) (by kernel_rfl) (by first | (simp only [maxLen, List.length_append, List.length_cons, List.length_nil]; omega) | (simp only [maxLen]; omega)) (by first | omega | (simp only [List.length_append, List.length_cons, List.length_nil]; omega)) (fun a_ k_ w_ M_ G_ o_ => ⟨.inr (fun _ => (G_.imm _ _ (((PH.le_refl _).trans l14) _ _ hb11))), .inr (fun _ => (G_.imm _ _ (((PH.le_refl _).trans l14) _ _ hb11))), trivial⟩) ?_
                intro a92 k92 w92 M92 G92 o92 z92
                refine DW.only 10 (by kernel_rfl) ?_
                refine DOp.append (e := 34) (bytes := 24) (cap := k92) (c2 := 1) (M0 := (M14.set b88 (.cells #[(.int .i64 (last + 1)), (.int .i64 (((xs.getD k actE.dflt)).a)), (.int .i64 (((xs.getD k actE.dflt)).b))] 34))) (xs := ([] ++ row)) (ys := ([(Tok.mk (last + 1) (((xs.getD k actE.dflt)).a) (((xs.getD k actE.dflt)).b))])) G92 (PH.le_refl _) o92 (PH.le_refl _) (RS.blk (E := tokE) (xs := [(Tok.mk (last + 1) (((xs.getD k actE.dflt)).a) (((xs.getD k actE.dflt)).b))]) (G92.own _ _ (o92.le _ _ (PH.set_same _ _ _))) (by kernel_rfl)) rfl rfl (by kernel_rfl) (by kernel_rfl) rfl (by kernel_rfl) (by kernel_rfl) (by kernel_rfl) (by first | (simp only [maxLen, List.length_append, List.length_cons, List.length_nil]; omega) | (simp only [maxLen]; omega)) (by first | omega | (simp only [List.length_append, List.length_cons, List.length_nil]; omega)) (fun a_ k_ w_ M_ G_ o_ => ⟨.inr (fun _ => (G_.imm _ _ (((PH.le_refl _).trans l14) _ _ hb11))), .inr (fun _ => (G_.imm _ _ (((PH.le_refl _).trans l14) _ _ hb11))), trivial⟩) ?_
                intro a93 k93 w93 M93 G93 o93 z93
                refine DW.take (T := fun _ => True) 11 (.slice a93 ((([] ++ row) ++ ([(Tok.mk (last + 1) (((xs.getD k actE.dflt)).a) (((xs.getD k actE.dflt)).b))])).length) k93) rfl (by kernel_rfl) rfl (by kernel_rfl) (.inl fun _ => trivial) (by kernel_rfl) (Deaf.thens (Deaf.block (Deaf.thens (Deaf.block (Deaf.thens (Deaf.thens (Deaf.block (Deaf.thens (Deaf.body RetM.not_panicked))))))))) (fun w_ _ => (by kernel_rfl)) trivial ?_
                refine DW.done (by kernel_rfl) ?_
                refine EX.then_code ?_
                refine CW.region ?_
                refine WL.q (.int .i64 (last + 1)) (by kernel_rfl) rfl (by kernel_rfl) (by kernel_rfl) ?_
                refine WL.q (.int .i64 ((last + 1) + 1)) (by kernel_rfl) rfl (by kernel_rfl) (q_int (x := IntKind.i64.wrap ((last + 1) + 1)) (by kernel_rfl) (wrap_to (by omega) (by omega) (by omega))) ?_
                refine WL.q (.int .i64 ((last + 1) + 1)) (by kernel_rfl) rfl (by kernel_rfl) (by kernel_rfl) ?_
                refine WL.nil ?_
                refine EX.in_block ?_
                refine EX.then_code ?_
                refine CW.seq ?_
                refine CW.region ?_
                refine WL.q (.pointer (some ⟨p5, 0, none⟩)) (by kernel_rfl) rfl (by kernel_rfl) (by kernel_rfl) ?_
                obtain ⟨h94, l94, G94, r94⟩ := o93.freeze G93
                refine WL.call (by kernel_rfl) rfl (by kernel_rfl) (by kernel_rfl) (lenT_spec (row := (row ++ [Tok.mk (last + 1) (((xs.getD k actE.dflt)).a) (((xs.getD k actE.dflt)).b)])) (G94.drop (PH.le_set _ n88)) A14 (by first | omega | exact Nat.le_trans (cutF_len (by assumption) _) (by omega) | (simp only [List.length_append, List.length_cons, List.length_nil, List.nil_append]; omega))) (Ret.elim ?_)
                rintro w95 h95 _ l95 G95 rfl
                refine WL.q (.slice a93 ((([] ++ row) ++ ([(Tok.mk (last + 1) (((xs.getD k actE.dflt)).a) (((xs.getD k actE.dflt)).b))])).length) k93) (by kernel_rfl) rfl (by kernel_rfl) (by kernel_rfl) ?_
                refine WL.q (.int .i64 ((([] ++ row) ++ ([(Tok.mk (last + 1) (((xs.getD k actE.dflt)).a) (((xs.getD k actE.dflt)).b))])).length : Int)) (by kernel_rfl) rfl (by kernel_rfl) (by kernel_rfl) ?_
                refine WL.q (.bool ((((row ++ [Tok.mk (last + 1) (((xs.getD k actE.dflt)).a) (((xs.getD k actE.dflt)).b)]).length : Int) : Int) != ((([] ++ row) ++ ([(Tok.mk (last + 1) (((xs.getD k actE.dflt)).a) (((xs.getD k actE.dflt)).b))])).length : Int))) (by kernel_rfl) rfl (by kernel_rfl) (by kernel_rfl) ?_
                refine WL.nil ?_
                refine EX.then_code ?_
                refine CW.cond ((((row ++ [Tok.mk (last + 1) (((xs.getD k actE.dflt)).a) (((xs.getD k actE.dflt)).b)]).length : Int) : Int) != ((([] ++ row) ++ ([(Tok.mk (last + 1) (((xs.getD k actE.dflt)).a) (((xs.getD k actE.dflt)).b))])).length : Int)) (by kernel_rfl) (by kernel_rfl) (fun c96 => ?_) (fun c96 => ?_)
                ·
                  skip
                  have d97 := bne_true c96
                  refine CW.seq ?_
                  refine CW.region ?_
                  refine WL.q (.bool false) (by kernel_rfl) rfl (by kernel_rfl) (by kernel_rfl) ?_
                  refine WL.nil ?_
                  refine EX.then_code ?_
                  refine CW.ret ?_
                  refine EX.ret_block ?_
                  refine EX.ret_then ?_
                  refine EX.ret_then ?_
                  refine EX.ret_block ?_
                  refine EX.ret_then ?_
                  refine EX.ret1 (v := (.bool false)) rfl (by kernel_rfl) ?_
                  first | (exfalso; omega) | (exfalso; simp only [List.length_append, List.length_cons, List.length_nil, List.nil_append] at *; omega) | (exfalso; simp_all; done)
                ·
                  skip
                  have d98 := bne_false c96
                  refine CW.skip ?_
                  refine EX.in_block ?_
                  refine EX.then_code ?_
                  refine CW.region ?_
                  refine WL.q (.int .i64 (k : Int)) (by kernel_rfl) rfl (by kernel_rfl) (by kernel_rfl) ?_
                  refine WL.q (.int .i64 ((k + 1 : Nat) : Int)) (by kernel_rfl) rfl (by kernel_rfl) (q_int (x := IntKind.i64.wrap ((k : Int) + 1)) (by kernel_rfl) (wrap_to (by omega) (by omega) (by omega))) ?_
                  refine WL.q (.int .i64 ((k + 1 : Nat) : Int)) (by kernel_rfl) rfl (by kernel_rfl) (by kernel_rfl) ?_
                  refine WL.nil ?_
                  exact EX.then_loop ⟨k + 1, (([] ++ row) ++ ([(Tok.mk (last + 1) (((xs.getD k actE.dflt)).a) (((xs.getD k actE.dflt)).b))])), a93, k93, (last + 1)⟩ ⟨(by kernel_rfl), (by kernel_rfl), (by kernel_rfl), (by kernel_rfl), (lk_int (x := ((k + 1 : Nat) : Int)) (by kernel_rfl) (by first | omega | (dsimp only; done) | (dsimp only; omega))), trivial⟩ ⟨h95, M14, ((((l6.trans l11).trans l14).trans l94).trans l95), G95, A14, (r94.mono ((PH.le_refl _).trans l95)), (by first | omega | (dsimp only [List.length_nil, List.length_append, List.length_cons]; omega)), (by first | omega | (dsimp only [List.length_nil, List.length_append, List.length_cons]; omega)), (by first | omega | (dsimp only [List.length_nil, List.length_append, List.length_cons]; omega)), (by first | omega | (simp only [List.length_append, List.length_cons, List.length_nil, List.nil_append]; omega))⟩ (by first | omega | (dsimp only; omega))
        ·
          skip
          refine WL.call (by kernel_rfl) rfl (by kernel_rfl) (by kernel_rfl) (addT_no G11 A6 (by omega) (((xs.getD k actE.dflt)).a) (((xs.getD k actE.dflt)).b) (hin)) (RetM.elim ?_)
          rintro w99 h99 M99 _ l99 G99 ⟨rfl, A99⟩
          refine WL.q (.tuple #[(.int .i64 0), (.int .i64 5)]) (by kernel_rfl) rfl (by kernel_rfl) (by kernel_rfl) ?_
          refine WL.q (.int .i64 0) (by kernel_rfl) rfl (by kernel_rfl) (by kernel_rfl) ?_
          refine WL.q (.int .i64 5) (by kernel_rfl) rfl (by kernel_rfl) (by kernel_rfl) ?_
          refine WL.q (.int .i64 0) (by kernel_rfl) rfl (by kernel_rfl) (by kernel_rfl) ?_
          refine WL.q (.int .i64 5) (by kernel_rfl) rfl (by kernel_rfl) (by kernel_rfl) ?_
          refine WL.nil ?_
          refine EX.then_code ?_
          refine CW.seq ?_
          refine CW.seq ?_
          refine CW.region ?_
          refine WL.q (.pointer (some ⟨b9, 1, none⟩)) (by kernel_rfl) rfl (by kernel_rfl) (by kernel_rfl) ?_
          refine WL.q (.int .i64 (((xs.getD k actE.dflt)).a)) (by kernel_rfl) rfl (by kernel_rfl) (q_load (off := 1) rfl (by kernel_rfl) (by kernel_rfl) (G99.imm _ _ (((PH.le_refl _).trans l99) _ _ hb11)) (by kernel_rfl)) ?_
          refine WL.q (.bool ((((xs.getD k actE.dflt)).a : Int) != 0)) (by kernel_rfl) rfl (by kernel_rfl) (by kernel_rfl) ?_
          refine WL.q (.bool ((((xs.getD k actE.dflt)).a : Int) != 0)) (by kernel_rfl) rfl (by kernel_rfl) (by kernel_rfl) ?_
          rcases bool_cases ((((xs.getD k actE.dflt)).a : Int) != 0) with c100 | c100
          ·
            skip
            have d101 := bne_true c100
            refine WL.know 54 (.bool true) (x := .bool ((((xs.getD k actE.dflt)).a : Int) != 0)) (by kernel_rfl) (congrArg Value.bool c100) ?_
            refine WL.q (.slice ar row.length cr) (by kernel_rfl) rfl (by kernel_rfl) (by kernel_rfl) ?_
            refine WL.q (.pointer (some ⟨b9, 1, none⟩)) (by kernel_rfl) rfl (by kernel_rfl) (by kernel_rfl) ?_
            refine WL.q (.int .i64 (((xs.getD k actE.dflt)).a)) (by kernel_rfl) rfl (by kernel_rfl) (q_load (off := 1) rfl (by kernel_rfl) (by kernel_rfl) (G99.imm _ _ (((PH.le_refl _).trans l99) _ _ hb11)) (by kernel_rfl)) ?_
            refine WL.call (by kernel_rfl) rfl (by kernel_rfl) (by kernel_rfl) (at_spec (l := row) (cl := cr) G99 (((xs.getD k actE.dflt)).a) (Hr.mono (((PH.le_refl _).trans l11).trans l99)) (by omega)) (Ret.elim ?_)
            rintro w102 h102 _ l102 G102 rfl
            have e103 := atF_bd row (((xs.getD k actE.dflt)).a)
            refine WL.q (.bool (decide ((atF row (((xs.getD k actE.dflt)).a)) < 0))) (by kernel_rfl) rfl (by kernel_rfl) (by kernel_rfl) ?_
            refine WL.q (.bool (decide ((atF row (((xs.getD k actE.dflt)).a)) < 0))) (by kernel_rfl) rfl (by kernel_rfl) (by kernel_rfl) ?_
            refine WL.nil ?_
            refine EX.then_code ?_
            refine CW.cond (decide ((atF row (((xs.getD k actE.dflt)).a)) < 0)) (by kernel_rfl) (by kernel_rfl) (fun c104 => ?_) (fun c104 => ?_)
            ·
              skip
              have d105 := of_decide_eq_true c104
              refine CW.seq ?_
              refine CW.seq ?_
              refine CW.region ?_
              refine WL.q (.int .i64 5) (by kernel_rfl) rfl (by kernel_rfl) (by kernel_rfl) ?_
              refine WL.q (.bool false) (by kernel_rfl) rfl (by kernel_rfl) (by kernel_rfl) ?_
              refine WL.q (.bool false) (by kernel_rfl) rfl (by kernel_rfl) (by kernel_rfl) ?_
              refine WL.q (.int .i64 0) (by kernel_rfl) rfl (by kernel_rfl) (by kernel_rfl) ?_
              refine WL.q (.bool false) (by kernel_rfl) rfl (by kernel_rfl) (by kernel_rfl) ?_
              refine WL.q (.bool false) (by kernel_rfl) rfl (by kernel_rfl) (by kernel_rfl) ?_
              refine WL.nil ?_
              refine EX.then_code ?_
              refine CW.cond_f (by kernel_rfl) (by kernel_rfl) ?_
              refine CW.skip ?_
              refine EX.then_code ?_
              refine CW.exit ?_
              refine EX.exit_then ?_
              refine EX.exit_on (by decide) ?_
              refine EX.exit_then ?_
              refine EX.exit_here ?_
              refine EX.then_code ?_
              refine CW.region ?_
              refine WL.q (.int .i64 (k : Int)) (by kernel_rfl) rfl (by kernel_rfl) (by kernel_rfl) ?_
              refine WL.q (.int .i64 ((k + 1 : Nat) : Int)) (by kernel_rfl) rfl (by kernel_rfl) (q_int (x := IntKind.i64.wrap ((k : Int) + 1)) (by kernel_rfl) (wrap_to (by omega) (by omega) (by omega))) ?_
              refine WL.q (.int .i64 ((k + 1 : Nat) : Int)) (by kernel_rfl) rfl (by kernel_rfl) (by kernel_rfl) ?_
              refine WL.nil ?_
              exact EX.then_loop ⟨k + 1, row, ar, cr, last⟩ ⟨(by kernel_rfl), (by kernel_rfl), (by kernel_rfl), (by kernel_rfl), (lk_int (x := ((k + 1 : Nat) : Int)) (by kernel_rfl) (by first | omega | (dsimp only; done) | (dsimp only; omega))), trivial⟩ ⟨h102, M99, (((l6.trans l11).trans l99).trans l102), G102, A99, (Hr.mono ((((PH.le_refl _).trans l11).trans l99).trans l102)), (by first | omega | (dsimp only [List.length_nil, List.length_append, List.length_cons]; omega)), (by first | omega | (dsimp only [List.length_nil, List.length_append, List.length_cons]; omega)), (by first | omega | (dsimp only [List.length_nil, List.length_append, List.length_cons]; omega)), (by first | omega | (simp only [List.length_append, List.length_cons, List.length_nil, List.nil_append]; omega))⟩ (by first | omega | (dsimp only; omega))
            ·
              skip
              have d106 := of_decide_eq_false c104
              refine CW.skip ?_
              refine EX.then_code ?_
              refine CW.seq ?_
              refine CW.seq ?_
              refine CW.region ?_
              refine WL.q (.int .i64 5) (by kernel_rfl) rfl (by kernel_rfl) (by kernel_rfl) ?_
              refine WL.q (.bool true) (by kernel_rfl) rfl (by kernel_rfl) (by kernel_rfl) ?_
              refine WL.q (.bool true) (by kernel_rfl) rfl (by kernel_rfl) (by kernel_rfl) ?_
              refine WL.skip (by kernel_rfl) rfl (by kernel_rfl) ?_
              refine WL.skip (by kernel_rfl) rfl (by kernel_rfl) ?_
              refine WL.skip (by kernel_rfl) rfl (by kernel_rfl) ?_
              refine WL.q (.bool true) (by kernel_rfl) rfl (by kernel_rfl) (by kernel_rfl) ?_
              refine WL.nil ?_
              refine EX.then_code ?_
              refine CW.cond_t (by kernel_rfl) (by kernel_rfl) ?_
              refine CW.seq ?_
              refine CW.region ?_
              refine WL.q (.bool false) (by kernel_rfl) rfl (by kernel_rfl) (by kernel_rfl) ?_
              refine WL.nil ?_
              refine EX.then_code ?_
              refine CW.ret ?_
              refine EX.ret_then ?_
              refine EX.ret_block ?_
              refine EX.ret_then ?_
              refine EX.ret_block ?_
              refine EX.ret_then ?_
              refine EX.ret_then ?_
              refine EX.ret_block ?_
              refine EX.ret_then ?_
              refine EX.ret1 (v := (.bool false)) rfl (by kernel_rfl) ?_
              first | (exfalso; omega) | (exfalso; simp only [List.length_append, List.length_cons, List.length_nil, List.nil_append] at *; omega) | (exfalso; simp_all; done)
          ·
            skip
            have d107 := bne_false c100
            refine WL.know 54 (.bool false) (x := .bool ((((xs.getD k actE.dflt)).a : Int) != 0)) (by kernel_rfl) (congrArg Value.bool c100) ?_
            refine WL.skip (by kernel_rfl) rfl (by kernel_rfl) ?_
            refine WL.skip (by kernel_rfl) rfl (by kernel_rfl) ?_
            refine WL.skip (by kernel_rfl) rfl (by kernel_rfl) ?_
            refine WL.skip (by kernel_rfl) rfl (by kernel_rfl) ?_
            refine WL.skip (by kernel_rfl) rfl (by kernel_rfl) ?_
            refine WL.q (.bool false) (by kernel_rfl) rfl (by kernel_rfl) (by kernel_rfl) ?_
            refine WL.nil ?_
            refine EX.then_code ?_
            refine CW.cond_f (by kernel_rfl) (by kernel_rfl) ?_
            refine CW.skip ?_
            refine EX.then_code ?_
            refine CW.seq ?_
            refine CW.seq ?_
            refine CW.region ?_
            refine WL.q (.int .i64 5) (by kernel_rfl) rfl (by kernel_rfl) (by kernel_rfl) ?_
            refine WL.q (.bool true) (by kernel_rfl) rfl (by kernel_rfl) (by kernel_rfl) ?_
            refine WL.q (.bool true) (by kernel_rfl) rfl (by kernel_rfl) (by kernel_rfl) ?_
            refine WL.skip (by kernel_rfl) rfl (by kernel_rfl) ?_
            refine WL.skip (by kernel_rfl) rfl (by kernel_rfl) ?_
            refine WL.skip (by kernel_rfl) rfl (by kernel_rfl) ?_
            refine WL.q (.bool true) (by kernel_rfl) rfl (by kernel_rfl) (by kernel_rfl) ?_
            refine WL.nil ?_
            refine EX.then_code ?_
            refine CW.cond_t (by kernel_rfl) (by kernel_rfl) ?_
            refine CW.seq ?_
            refine CW.region ?_
            refine WL.q (.bool false) (by kernel_rfl) rfl (by kernel_rfl) (by kernel_rfl) ?_
            refine WL.nil ?_
            refine EX.then_code ?_
            refine CW.ret ?_
            refine EX.ret_then ?_
            refine EX.ret_block ?_
            refine EX.ret_then ?_
            refine EX.ret_block ?_
            refine EX.ret_then ?_
            refine EX.ret_then ?_
            refine EX.ret_block ?_
            refine EX.ret_then ?_
            refine EX.ret1 (v := (.bool false)) rfl (by kernel_rfl) ?_
            first | (exfalso; omega) | (exfalso; simp only [List.length_append, List.length_cons, List.length_nil, List.nil_append] at *; omega) | (exfalso; simp_all; done)
      ·
        skip
        have d108 := ne_of_beq_false c12
        refine CW.seq ?_
        refine CW.region ?_
        refine WL.q (.bool ((((xs.getD k actE.dflt)).op : Int) == 2)) (by kernel_rfl) rfl (by kernel_rfl) (by kernel_rfl) ?_
        refine WL.q (.bool ((((xs.getD k actE.dflt)).op : Int) == 2)) (by kernel_rfl) rfl (by kernel_rfl) (by kernel_rfl) ?_
        refine WL.nil ?_
        refine EX.then_code ?_
        refine CW.cond ((((xs.getD k actE.dflt)).op : Int) == 2) (by kernel_rfl) (by kernel_rfl) (fun c109 => ?_) (fun c109 => ?_)
        ·
          skip
          have d110 := eq_of_beq c109
          refine CW.seq ?_
          refine CW.region ?_
          refine WL.q (.slice none 0 0) (by kernel_rfl) rfl (by kernel_rfl) (by kernel_rfl) ?_
          refine WL.nil ?_
          refine EX.then_code ?_
          refine CW.seq ?_
          refine CW.seq ?_
          refine CW.region ?_
          refine WL.q (.int .i64 0) (by kernel_rfl) rfl (by kernel_rfl) (by kernel_rfl) ?_
          refine WL.nil ?_
          refine EX.then_code ?_
          refine CW.block ?_
          refine CW.loop (β := Nat × Option Addr × Nat) (fun x_ => [(0, (.slice ax xs.length cx)), (3, (.pointer (some ⟨p5, 0, none⟩))), (4, (.slice ar row.length cr)), (5, (.int .i64 (last + 1))), (6, (.int .i64 (k : Int))), (7, (.pointer (some ⟨b9, 0, none⟩))), (10, (.slice x_.2.1 ((factK row (xs.getD k actE.dflt).a x_.1).length) x_.2.2)), (11, (.int .i64 (x_.1 : Int)))]) (fun x_ w_ => ∃ h_ Mg_, (PH.le h11 h_) ∧ (Wld K w_ h_ Mg_) ∧ (Own 3 intE Mt6 Mg_ x_.2.1 x_.2.2 (factK row (xs.getD k actE.dflt).a x_.1)) ∧ (x_.1 ≤ row.length)) (fun x_ => row.length - x_.1) ⟨0, none, 0⟩ ⟨(by kernel_rfl), (by kernel_rfl), (by kernel_rfl), (by kernel_rfl), (by kernel_rfl), (by kernel_rfl), (by kernel_rfl), (lk_int (x := 0) (by kernel_rfl) (by first | omega | (dsimp only; done) | (dsimp only; omega))), trivial⟩ ⟨h11, Mt6, (PH.le_refl _), G11, (Own.nil 3 intE Mt6), (by first | omega | (dsimp only [List.length_nil, List.length_append, List.length_cons]; omega))⟩ ?_
          rintro ⟨j, ag, cg⟩ w111 ⟨h111, Mg_111, l111, G111, og111, hj⟩
          try dsimp only at *
          have hgl := factK_len row (xs.getD k actE.dflt).a j
          refine CW.seq ?_
          refine CW.seq ?_
          refine CW.region ?_
          refine WL.q (.int .i64 (j : Int)) (by kernel_rfl) rfl (by kernel_rfl) (by kernel_rfl) ?_
          refine WL.q (.slice ar row.length cr) (by kernel_rfl) rfl (by kernel_rfl) (by kernel_rfl) ?_
          refine WL.q (.int .i64 (row.length : Int)) (by kernel_rfl) rfl (by kernel_rfl) (by kernel_rfl) ?_
          refine WL.q (.bool (decide ((j : Int) < (row.length : Int)))) (by kernel_rfl) rfl (by kernel_rfl) (by kernel_rfl) ?_
          refine WL.nil ?_
          refine EX.then_code ?_
          refine CW.cond (decide ((j : Int) < (row.length : Int))) (by kernel_rfl) (by kernel_rfl) (fun c112 => ?_) (fun c112 => ?_)
          ·
            skip
            have d113 := of_decide_eq_true c112
            refine CW.skip ?_
            refine EX.then_code ?_
            refine CW.seq ?_
            refine CW.block ?_
            refine CW.seq ?_
            refine CW.draw (by kernel_rfl) [(4, fun w_ => RS (PH.all w_) tokE ar row), (6, fun w_ => PH.all w_ b9 = some (.cells #[(.int .i64 (((xs.getD k actE.dflt)).op)), (.int .i64 (((xs.getD k actE.dflt)).a)), (.int .i64 (((xs.getD k actE.dflt)).b))] 28 (0, 0)))] ?_
            refine DW.take (T := fun _ => True) 0 (.slice ar row.length cr) rfl (by kernel_rfl) rfl (by kernel_rfl) (.inl fun _ => trivial) (by kernel_rfl) (Deaf.thens (Deaf.block (Deaf.thens (Deaf.thens (Deaf.block (Deaf.thens (Deaf.block (Deaf.thens (Deaf.block (Deaf.thens (Deaf.thens (Deaf.block (Deaf.thens (Deaf.body RetM.not_panicked)))))))))))))) (fun w_ _ => (by kernel_rfl)) trivial ?_
            refine DW.take (T := fun _ => True) 1 (.int .i64 (j : Int)) rfl (by kernel_rfl) rfl (by kernel_rfl) (.inl fun _ => trivial) (by kernel_rfl) (Deaf.thens (Deaf.block (Deaf.thens (Deaf.thens (Deaf.block (Deaf.thens (Deaf.block (Deaf.thens (Deaf.block (Deaf.thens (Deaf.thens (Deaf.block (Deaf.thens (Deaf.body RetM.not_panicked)))))))))))))) (fun w_ _ => (by kernel_rfl)) trivial ?_
            refine DW.take (T := fun _ => True) 2 (eptr ar (j * tokE.sz)) rfl (by kernel_rfl) rfl (by kernel_rfl) (.inl fun _ => trivial) (by kernel_rfl) (Deaf.thens (Deaf.block (Deaf.thens (Deaf.thens (Deaf.block (Deaf.thens (Deaf.block (Deaf.thens (Deaf.block (Deaf.thens (Deaf.thens (Deaf.block (Deaf.thens (Deaf.body RetM.not_panicked)))))))))))))) (fun w_ _ => (q_indexAddr (i := j) (E := tokE) (xs := row) (e := 34) (c := cr) (k := .i64) (m := row.length) rfl rfl (by kernel_rfl) (by kernel_rfl) (by kernel_rfl) (Hr.mono ((((PH.le_refl _).trans l11).trans l111).trans (G111.drew).imm)) (by omega))) trivial ?_
            refine DW.take (T := fun _ => True) 3 (eptr ar (j * tokE.sz + 2)) rfl (by kernel_rfl) rfl (by kernel_rfl) (.inl fun _ => trivial) (by kernel_rfl) (Deaf.thens (Deaf.block (Deaf.thens (Deaf.thens (Deaf.block (Deaf.thens (Deaf.block (Deaf.thens (Deaf.block (Deaf.thens (Deaf.thens (Deaf.block (Deaf.thens (Deaf.body RetM.not_panicked)))))))))))))) (fun w_ _ => (q_fieldAddr_e (i := j) (k := j * tokE.sz) (off := 2) rfl (by kernel_rfl) (by kernel_rfl) (Hr.mono ((((PH.le_refl _).trans l11).trans l111).trans (G111.drew).imm)) (by omega))) trivial ?_
            refine DW.take (T := fun w_ => RS (PH.all w_) tokE ar row) 4 (.int .i64 (((row.getD j tokE.dflt)).fact)) rfl (by kernel_rfl) rfl (by kernel_rfl) (.inr (by simp only [List.mem_cons, true_or, or_true])) (by kernel_rfl) (Deaf.thens (Deaf.block (Deaf.thens (Deaf.thens (Deaf.block (Deaf.thens (Deaf.block (Deaf.thens (Deaf.block (Deaf.thens (Deaf.thens (Deaf.block (Deaf.thens (Deaf.body RetM.not_panicked)))))))))))))) (fun w_ T_ => (q_load_e (i := j) (k := 2) (E := tokE) rfl (by kernel_rfl) (by kernel_rfl) T_ (by omega) (by decide) (by kernel_rfl))) (Hr.mono ((((PH.le_refl _).trans l11).trans l111).trans (G111.drew).imm)) ?_
            refine DW.take (T := fun _ => True) 5 (.pointer (some ⟨b9, 1, none⟩)) rfl (by kernel_rfl) rfl (by kernel_rfl) (.inl fun _ => trivial) (by kernel_rfl) (Deaf.thens (Deaf.block (Deaf.thens (Deaf.thens (Deaf.block (Deaf.thens (Deaf.block (Deaf.thens (Deaf.block (Deaf.thens (Deaf.thens (Deaf.block (Deaf.thens (Deaf.body RetM.not_panicked)))))))))))))) (fun w_ _ => (by kernel_rfl)) trivial ?_
            refine DW.take (T := fun w_ => PH.all w_ b9 = some (.cells #[(.int .i64 (((xs.getD k actE.dflt)).op)), (.int .i64 (((xs.getD k actE.dflt)).a)), (.int .i64 (((xs.getD k actE.dflt)).b))] 28 (0, 0))) 6 (.int .i64 (((xs.getD k actE.dflt)).a)) rfl (by kernel_rfl) rfl (by kernel_rfl) (.inr (by simp only [List.mem_cons, true_or, or_true])) (by kernel_rfl) (Deaf.thens (Deaf.block (Deaf.thens (Deaf.thens (Deaf.block (Deaf.thens (Deaf.block (Deaf.thens (Deaf.block (Deaf.thens (Deaf.thens (Deaf.block (Deaf.thens (Deaf.body RetM.not_panicked)))))))))))))) (fun w_ T_ => (q_load (off := 1) rfl (by kernel_rfl) (by kernel_rfl) T_ (by kernel_rfl))) ((G111.drew).imm _ _ (l111 _ _ hb11)) ?_
            refine DW.take (T := fun _ => True) 7 (.bool ((((row.getD j tokE.dflt)).fact : Int) == ((xs.getD k actE.dflt)).a)) rfl (by kernel_rfl) rfl (by kernel_rfl) (.inl fun _ => trivial) (by kernel_rfl) (Deaf.thens (Deaf.block (Deaf.thens (Deaf.thens (Deaf.block (Deaf.thens (Deaf.block (Deaf.thens (Deaf.block (Deaf.thens (Deaf.thens (Deaf.block (Deaf.thens (Deaf.body RetM.not_panicked)))))))))))))) (fun w_ _ => (by kernel_rfl)) trivial ?_
            refine DW.done (by kernel_rfl) ?_
            refine EX.then_code ?_
            refine CW.cond ((((row.getD j tokE.dflt)).fact : Int) == ((xs.getD k actE.dflt)).a) (by kernel_rfl) (by kernel_rfl) (fun c115 => ?_) (fun c115 => ?_)
            ·
              skip
              have d116 := eq_of_beq c115
              refine CW.region ?_
              refine WL.q (.slice ag ((factK row (xs.getD k actE.dflt).a j).length) cg) (by kernel_rfl) rfl (by kernel_rfl) (by kernel_rfl) ?_
              refine WL.q (.slice ar row.length cr) (by kernel_rfl) rfl (by kernel_rfl) (by kernel_rfl) ?_
              refine WL.q (.int .i64 (j : Int)) (by kernel_rfl) rfl (by kernel_rfl) (by kernel_rfl) ?_
              refine WL.q (eptr ar (j * tokE.sz)) (by kernel_rfl) rfl (by kernel_rfl) (q_indexAddr (i := j) (E := tokE) (xs := row) (e := 34) (c := cr) (k := .i64) (m := row.length) rfl rfl (by kernel_rfl) (by kernel_rfl) (by kernel_rfl) (Hr.mono ((((PH.le_refl _).trans l11).trans l111).trans (G111.drew).imm)) (by omega)) ?_
              refine WL.q (eptr ar (j * tokE.sz + 0)) (by kernel_rfl) rfl (by kernel_rfl) (q_fieldAddr_e (i := j) (k := j * tokE.sz) (off := 0) rfl (by kernel_rfl) (by kernel_rfl) (Hr.mono ((((PH.le_refl _).trans l11).trans l111).trans (G111.drew).imm)) (by omega)) ?_
              refine WL.q (.int .i64 (((row.getD j tokE.dflt)).id)) (by kernel_rfl) rfl (by kernel_rfl) (q_load_e (i := j) (k := 0) (E := tokE) rfl (by kernel_rfl) (by kernel_rfl) (Hr.mono ((((PH.le_refl _).trans l11).trans l111).trans (G111.drew).imm)) (by omega) (by decide) (by kernel_rfl)) ?_
              refine WL.new (ob := (.cells #[(.int .i64 (((row.getD j tokE.dflt)).id))] 3)) (G111.drew) (by kernel_rfl) rfl (by kernel_rfl) (fun b_ => .slice (some ⟨b_, 0, none⟩) 1 1) (fun u_ => by kernel_rfl) ?_
              intro b117 w117 n117 i117 G117
              refine WL.append (e := 3) (bytes := 8) (cap := cg) (c2 := 1) (M0 := Mt6) (xs := (factK row (xs.getD k actE.dflt).a j)) (ys := ([((row.getD j tokE.dflt)).id])) G117 (PH.le_set _ n117) og111 (PH.le_refl _) (RS.blk (E := intE) (xs := [((row.getD j tokE.dflt)).id]) (G117.own _ _ (PH.set_same _ _ _)) (by kernel_rfl)) rfl (by kernel_rfl) (by kernel_rfl) rfl (by kernel_rfl) (by kernel_rfl) (by kernel_rfl) (by first | (simp only [maxLen, List.length_append, List.length_cons, List.length_nil]; omega) | (simp only [maxLen]; omega)) (by first | omega | (simp only [List.length_append, List.length_cons, List.length_nil]; omega)) ?_
              intro a118 k118 w118 M118 G118 o118 z118
              refine WL.q (.slice a118 (((factK row (xs.getD k actE.dflt).a j) ++ ([((row.getD j tokE.dflt)).id])).length) k118) (by kernel_rfl) rfl (by kernel_rfl) (by kernel_rfl) ?_
              refine WL.nil ?_
              refine EX.in_block ?_
              refine EX.then_code ?_
              refine CW.region ?_
              refine WL.q (.int .i64 (j : Int)) (by kernel_rfl) rfl (by kernel_rfl) (by kernel_rfl) ?_
              refine WL.q (.int .i64 ((j + 1 : Nat) : Int)) (by kernel_rfl) rfl (by kernel_rfl) (q_int (x := IntKind.i64.wrap ((j : Int) + 1)) (by kernel_rfl) (wrap_to (by omega) (by omega) (by omega))) ?_
              refine WL.q (.int .i64 ((j + 1 : Nat) : Int)) (by kernel_rfl) rfl (by kernel_rfl) (by kernel_rfl) ?_
              refine WL.nil ?_
              have q1 := factK_yes row (xs.getD k actE.dflt).a (k := j) (by omega) (by assumption)
              exact EX.then_loop ⟨j + 1, a118, k118⟩ ⟨(by kernel_rfl), (by kernel_rfl), (by kernel_rfl), (by kernel_rfl), (by kernel_rfl), (by kernel_rfl), (lk_val (x := (.slice a118 (((factK row (xs.getD k actE.dflt).a j) ++ ([((row.getD j tokE.dflt)).id])).length) k118)) (by kernel_rfl) (by rw [q1]; first | done | rfl)), (lk_int (x := ((j + 1 : Nat) : Int)) (by kernel_rfl) (by first | omega | (dsimp only; done) | (dsimp only; omega))), trivial⟩ ⟨h111, M118, l111, G118, (q1.symm ▸ o118), (by first | omega | (dsimp only [List.length_nil, List.length_append, List.length_cons]; omega))⟩ (by first | omega | (dsimp only; omega))
            ·
              skip
              have d119 := ne_of_beq_false c115
              refine CW.skip ?_
              refine EX.in_block ?_
              refine EX.then_code ?_
              refine CW.region ?_
              refine WL.q (.int .i64 (j : Int)) (by kernel_rfl) rfl (by kernel_rfl) (by kernel_rfl) ?_
              refine WL.q (.int .i64 ((j + 1 : Nat) : Int)) (by kernel_rfl) rfl (by kernel_rfl) (q_int (x := IntKind.i64.wrap ((j : Int) + 1)) (by kernel_rfl) (wrap_to (by omega) (by omega) (by omega))) ?_
              refine WL.q (.int .i64 ((j + 1 : Nat) : Int)) (by kernel_rfl) rfl (by kernel_rfl) (by kernel_rfl) ?_
              refine WL.nil ?_
              have q1 := factK_no row (xs.getD k actE.dflt).a (k := j) (by omega) (by assumption)
              exact EX.then_loop ⟨j + 1, ag, cg⟩ ⟨(by kernel_rfl), (by kernel_rfl), (by kernel_rfl), (by kernel_rfl), (by kernel_rfl), (by kernel_rfl), (lk_val (x := (.slice ag ((factK row (xs.getD k actE.dflt).a j).length) cg)) (by kernel_rfl) (by rw [q1]; first | done | rfl)), (lk_int (x := ((j + 1 : Nat) : Int)) (by kernel_rfl) (by first | omega | (dsimp only; done) | (dsimp only; omega))), trivial⟩ ⟨h111, Mg_111, l111, (G111.drew), (q1.symm ▸ og111), (by first | omega | (dsimp only [List.length_nil, List.length_append, List.length_cons]; omega))⟩ (by first | omega | (dsimp only; omega))
          ·
            skip
            have d120 := of_decide_eq_false c112
            refine CW.exit ?_
            refine EX.exit_then ?_
            refine EX.exit_then ?_
            refine EX.exit_here ?_
            refine EX.then_code ?_
            refine CW.seq ?_
            refine CW.region ?_
            refine WL.q (.slice ar row.length cr) (by kernel_rfl) rfl (by kernel_rfl) (by kernel_rfl) ?_
            refine WL.q (.slice ag ((factK row (xs.getD k actE.dflt).a j).length) cg) (by kernel_rfl) rfl (by kernel_rfl) (by kernel_rfl) ?_
            obtain rfl : j = row.length := by omega
            obtain ⟨h121, l121, G121, r121⟩ := og111.freeze G111
            have hfk := factK_full row (xs.getD k actE.dflt).a
            have rf122 := hfk ▸ r121
            have hfl : (factsOf row (xs.getD k actE.dflt).a).length ≤ row.length := hfk ▸ hgl
            refine WL.know 113 (.slice ag (factsOf row (xs.getD k actE.dflt).a).length cg) (x := .slice ag (factK row (xs.getD k actE.dflt).a row.length).length cg) (by kernel_rfl) (by rw [hfk]) ?_
            refine WL.call (by kernel_rfl) rfl (by kernel_rfl) (by kernel_rfl) (cut_spec (al := ar) (ag := ag) (l := row) (gone := (factsOf row (xs.getD k actE.dflt).a)) (cl := cr) (cg := cg) G121 (Hr.mono ((((PH.le_refl _).trans l11).trans l111).trans l121)) (rf122.mono (PH.le_refl _)) (by omega) (by first | omega | simp)) (Ret.elim ?_)
            rintro w124 h124 _ l124 G124 ⟨b123, cb123, bi123, ci123, rfl, rb123, ri123⟩
            refine WL.q (.tuple #[(.slice b123 ((cutF row (factsOf row (xs.getD k actE.dflt).a)).length) cb123), (.slice bi123 ((idsF row (factsOf row (xs.getD k actE.dflt).a)).length) ci123)]) (by kernel_rfl) rfl (by kernel_rfl) (by kernel_rfl) ?_
            refine WL.q (.slice b123 ((cutF row (factsOf row (xs.getD k actE.dflt).a)).length) cb123) (by kernel_rfl) rfl (by kernel_rfl) (by kernel_rfl) ?_
            refine WL.q (.slice bi123 ((idsF row (factsOf row (xs.getD k actE.dflt).a)).length) ci123) (by kernel_rfl) rfl (by kernel_rfl) (by kernel_rfl) ?_
            refine WL.q (.slice b123 ((cutF row (factsOf row (xs.getD k actE.dflt).a)).length) cb123) (by kernel_rfl) rfl (by kernel_rfl) (by kernel_rfl) ?_
            refine WL.q (.slice bi123 ((idsF row (factsOf row (xs.getD k actE.dflt).a)).length) ci123) (by kernel_rfl) rfl (by kernel_rfl) (by kernel_rfl) ?_
            refine WL.nil ?_
            refine EX.then_code ?_
            refine CW.seq ?_
            refine CW.seq ?_
            refine CW.region ?_
            refine WL.q (.pointer (some ⟨p5, 0, none⟩)) (by kernel_rfl) rfl (by kernel_rfl) (by kernel_rfl) ?_
            refine WL.q (.pointer (some ⟨b9, 1, none⟩)) (by kernel_rfl) rfl (by kernel_rfl) (by kernel_rfl) ?_
            refine WL.q (.int .i64 (((xs.getD k actE.dflt)).a)) (by kernel_rfl) rfl (by kernel_rfl) (q_load (off := 1) rfl (by kernel_rfl) (by kernel_rfl) (G124.imm _ _ (((l111.trans l121).trans l124) _ _ hb11)) (by kernel_rfl)) ?_
            refine WL.call (by kernel_rfl) rfl (by kernel_rfl) (by kernel_rfl) (dropT_spec G124 A6 (by omega) (by omega) (((xs.getD k actE.dflt)).a)) (RetM.elim ?_)
            rintro w125 h125 M125 _ l125 G125 ⟨ad125, rfl, rd125, A125⟩
            refine WL.q (.slice bi123 ((idsF row (factsOf row (xs.getD k actE.dflt).a)).length) ci123) (by kernel_rfl) rfl (by kernel_rfl) (by kernel_rfl) ?_
            have hil126 : (idsF row (factsOf row (((xs.getD k actE.dflt)).a))).length ≤ 1000000 := by exact Nat.le_trans (idsF_len hwf _) (by omega)
            refine WL.call (by kernel_rfl) rfl (by kernel_rfl) (by kernel_rfl) (ints_spec (ax := ad125) (ay := bi123) (xs := (idsF row (factsOf row (((xs.getD k actE.dflt)).a)))) (ys := (idsF row (factsOf row (xs.getD k actE.dflt).a))) (cx := ((idsF row (factsOf row (((xs.getD k actE.dflt)).a))).length)) (cy := ci123) G125 (rd125.mono (PH.le_refl _)) (ri123.mono ((PH.le_refl _).trans l125)) (by assumption)) (Ret.elim ?_)
            rintro w127 h127 _ l127 G127 rfl
            refine WL.know 122 (.bool true) (x := .bool (decide ((idsF row (factsOf row (((xs.getD k actE.dflt)).a))) = (idsF row (factsOf row (xs.getD k actE.dflt).a))))) (by kernel_rfl) (congrArg Value.bool (dec_self)) ?_
            refine WL.q (.bool false) (by kernel_rfl) rfl (by kernel_rfl) (by kernel_rfl) ?_
            refine WL.nil ?_
            refine EX.then_code ?_
            refine CW.cond_f (by kernel_rfl) (by kernel_rfl) ?_
            refine CW.skip ?_
            refine EX.then_code ?_
            refine CW.region ?_
            refine WL.q (.slice b123 ((cutF row (factsOf row (xs.getD k actE.dflt).a)).length) cb123) (by kernel_rfl) rfl (by kernel_rfl) (by kernel_rfl) ?_
            refine WL.q (.slice b123 ((cutF row (factsOf row (xs.getD k actE.dflt).a)).length) cb123) (by kernel_rfl) rfl (by kernel_rfl) (by kernel_rfl) ?_
            refine WL.nil ?_
            refine EX.in_block ?_
            refine EX.then_code ?_
            refine CW.seq ?_
            refine CW.region ?_
            refine WL.q (.pointer (some ⟨p5, 0, none⟩)) (by kernel_rfl) rfl (by kernel_rfl) (by kernel_rfl) ?_
            refine WL.call (by kernel_rfl) rfl (by kernel_rfl) (by kernel_rfl) (lenT_spec (row := (cutF row (factsOf row (((xs.getD k actE.dflt)).a)))) G127 A125 (by first | omega | exact Nat.le_trans (cutF_len (by assumption) _) (by omega) | (simp only [List.length_append, List.length_cons, List.length_nil, List.nil_append]; omega))) (Ret.elim ?_)
            rintro w128 h128 _ l128 G128 rfl
            refine WL.q (.slice b123 ((cutF row (factsOf row (xs.getD k actE.dflt).a)).length) cb123) (by kernel_rfl) rfl (by kernel_rfl) (by kernel_rfl) ?_
            refine WL.q (.int .i64 ((cutF row (factsOf row (xs.getD k actE.dflt).a)).length : Int)) (by kernel_rfl) rfl (by kernel_rfl) (by kernel_rfl) ?_
            refine WL.q (.bool ((((cutF row (factsOf row (((xs.getD k actE.dflt)).a))).length : Int) : Int) != ((cutF row (factsOf row (xs.getD k actE.dflt).a)).length : Int))) (by kernel_rfl) rfl (by kernel_rfl) (by kernel_rfl) ?_
            refine WL.nil ?_
            refine EX.then_code ?_
            refine CW.cond ((((cutF row (factsOf row (((xs.getD k actE.dflt)).a))).length : Int) : Int) != ((cutF row (factsOf row (xs.getD k actE.dflt).a)).length : Int)) (by kernel_rfl) (by kernel_rfl) (fun c129 => ?_) (fun c129 => ?_)
            ·
              skip
              have d130 := bne_true c129
              refine CW.seq ?_
              refine CW.region ?_
              refine WL.q (.bool false) (by kernel_rfl) rfl (by kernel_rfl) (by kernel_rfl) ?_
              refine WL.nil ?_
              refine EX.then_code ?_
              refine CW.ret ?_
              refine EX.ret_block ?_
              refine EX.ret_then ?_
              refine EX.ret_then ?_
              refine EX.ret_block ?_
              refine EX.ret_then ?_
              refine EX.ret1 (v := (.bool false)) rfl (by kernel_rfl) ?_
              first | (exfalso; omega) | (exfalso; simp only [List.length_append, List.length_cons, List.length_nil, List.nil_append] at *; omega) | (exfalso; simp_all; done)
            ·
              skip
              have d131 := bne_false c129
              refine CW.skip ?_
              refine EX.in_block ?_
              refine EX.then_code ?_
              refine CW.region ?_
              refine WL.q (.int .i64 (k : Int)) (by kernel_rfl) rfl (by kernel_rfl) (by kernel_rfl) ?_
              refine WL.q (.int .i64 ((k + 1 : Nat) : Int)) (by kernel_rfl) rfl (by kernel_rfl) (q_int (x := IntKind.i64.wrap ((k : Int) + 1)) (by kernel_rfl) (wrap_to (by omega) (by omega) (by omega))) ?_
              refine WL.q (.int .i64 ((k + 1 : Nat) : Int)) (by kernel_rfl) rfl (by kernel_rfl) (by kernel_rfl) ?_
              refine WL.nil ?_
              have hcl := cutF_len hwf (factsOf row (xs.getD k actE.dflt).a)
              exact EX.then_loop ⟨k + 1, (cutF row (factsOf row (xs.getD k actE.dflt).a)), b123, cb123, last⟩ ⟨(by kernel_rfl), (by kernel_rfl), (by kernel_rfl), (by kernel_rfl), (lk_int (x := ((k + 1 : Nat) : Int)) (by kernel_rfl) (by first | omega | (dsimp only; done) | (dsimp only; omega))), trivial⟩ ⟨h128, M125, (((((((l6.trans l11).trans l111).trans l121).trans l124).trans l125).trans l127).trans l128), G128, A125, (rb123.mono ((((PH.le_refl _).trans l125).trans l127).trans l128)), (by first | omega | (dsimp only [List.length_nil, List.length_append, List.length_cons]; omega)), (by first | omega | (dsimp only [List.length_nil, List.length_append, List.length_cons]; omega)), (by first | omega | (dsimp only [List.length_nil, List.length_append, List.length_cons]; omega)), (by first | omega | (simp only [List.length_append, List.length_cons, List.length_nil, List.nil_append]; omega))⟩ (by first | omega | (dsimp only; omega))
        ·
          skip
          have d132 := ne_of_beq_false c109
          refine CW.seq ?_
          refine CW.region ?_
          refine WL.q (.bool ((((xs.getD k actE.dflt)).op : Int) == 3)) (by kernel_rfl) rfl (by kernel_rfl) (by kernel_rfl) ?_
          refine WL.q (.bool ((((xs.getD k actE.dflt)).op : Int) == 3)) (by kernel_rfl) rfl (by kernel_rfl) (by kernel_rfl) ?_
          refine WL.nil ?_
          refine EX.then_code ?_
          refine CW.cond ((((xs.getD k actE.dflt)).op : Int) == 3) (by kernel_rfl) (by kernel_rfl) (fun c133 => ?_) (fun c133 => ?_)
          ·
            skip
            have d134 := eq_of_beq c133
            refine CW.seq ?_
            refine CW.region ?_
            refine WL.q (.slice ar row.length cr) (by kernel_rfl) rfl (by kernel_rfl) (by kernel_rfl) ?_
            refine WL.q (.pointer (some ⟨b9, 1, none⟩)) (by kernel_rfl) rfl (by kernel_rfl) (by kernel_rfl) ?_
            refine WL.q (.int .i64 (((xs.getD k actE.dflt)).a)) (by kernel_rfl) rfl (by kernel_rfl) (q_load (off := 1) rfl (by kernel_rfl) (by kernel_rfl) (G11.imm _ _ ((PH.le_refl _) _ _ hb11)) (by kernel_rfl)) ?_
            refine WL.new (ob := (.cells #[(.int .i64 (((xs.getD k actE.dflt)).a))] 3)) G11 (by kernel_rfl) rfl (by kernel_rfl) (fun b_ => .slice (some ⟨b_, 0, none⟩) 1 1) (fun u_ => by kernel_rfl) ?_
            intro b135 w135 n135 i135 G135
            obtain ⟨h136, l136, G136, hb136⟩ := G135.frz n135
            have r136 : RS h136 intE (some ⟨b135, 0, none⟩) [((xs.getD k actE.dflt)).a] := RS.blk hb136 (by kernel_rfl)
            refine WL.call (by kernel_rfl) rfl (by kernel_rfl) (by kernel_rfl) (cut_spec (al := ar) (ag := (some ⟨b135, 0, none⟩)) (l := row) (gone := ([((xs.getD k actE.dflt)).a])) (cl := cr) (cg := 1) G136 (Hr.mono (((PH.le_refl _).trans l11).trans l136)) (r136.mono (PH.le_refl _)) (by omega) (by first | omega | simp)) (Ret.elim ?_)
            rintro w138 h138 _ l138 G138 ⟨b137, cb137, bi137, ci137, rfl, rb137, ri137⟩
            refine WL.q (.tuple #[(.slice b137 ((cutF row [((xs.getD k actE.dflt)).a]).length) cb137), (.slice bi137 ((idsF row [((xs.getD k actE.dflt)).a]).length) ci137)]) (by kernel_rfl) rfl (by kernel_rfl) (by kernel_rfl) ?_
            refine WL.q (.slice b137 ((cutF row [((xs.getD k actE.dflt)).a]).length) cb137) (by kernel_rfl) rfl (by kernel_rfl) (by kernel_rfl) ?_
            refine WL.q (.slice bi137 ((idsF row [((xs.getD k actE.dflt)).a]).length) ci137) (by kernel_rfl) rfl (by kernel_rfl) (by kernel_rfl) ?_
            refine WL.q (.slice b137 ((cutF row [((xs.getD k actE.dflt)).a]).length) cb137) (by kernel_rfl) rfl (by kernel_rfl) (by kernel_rfl) ?_
            refine WL.q (.slice bi137 ((idsF row [((xs.getD k actE.dflt)).a]).length) ci137) (by kernel_rfl) rfl (by kernel_rfl) (by kernel_rfl) ?_
            refine WL.nil ?_
            refine EX.then_code ?_
            refine CW.seq ?_
            refine CW.seq ?_
            refine CW.region ?_
            refine WL.q (.pointer (some ⟨p5, 0, none⟩)) (by kernel_rfl) rfl (by kernel_rfl) (by kernel_rfl) ?_
            refine WL.q (.pointer (some ⟨b9, 1, none⟩)) (by kernel_rfl) rfl (by kernel_rfl) (by kernel_rfl) ?_
            refine WL.q (.int .i64 (((xs.getD k actE.dflt)).a)) (by kernel_rfl) rfl (by kernel_rfl) (q_load (off := 1) rfl (by kernel_rfl) (by kernel_rfl) (G138.imm _ _ ((((PH.le_refl _).trans l136).trans l138) _ _ hb11)) (by kernel_rfl)) ?_
            refine WL.call (by kernel_rfl) rfl (by kernel_rfl) (by kernel_rfl) (cutT_spec G138 A6 (by omega) (((xs.getD k actE.dflt)).a)) (RetM.elim ?_)
            rintro w139 h139 M139 _ l139 G139 ⟨ad139, rfl, rd139, A139⟩
            refine WL.q (.slice bi137 ((idsF row [((xs.getD k actE.dflt)).a]).length) ci137) (by kernel_rfl) rfl (by kernel_rfl) (by kernel_rfl) ?_
            have hil140 : (idsF row [((xs.getD k actE.dflt)).a]).length ≤ 1000000 := by exact Nat.le_trans (idsF_len hwf _) (by omega)
            refine WL.call (by kernel_rfl) rfl (by kernel_rfl) (by kernel_rfl) (ints_spec (ax := ad139) (ay := bi137) (xs := (idsF row [((xs.getD k actE.dflt)).a])) (ys := (idsF row [((xs.getD k actE.dflt)).a])) (cx := ((idsF row [((xs.getD k actE.dflt)).a]).length)) (cy := ci137) G139 (rd139.mono (PH.le_refl _)) (ri137.mono ((PH.le_refl _).trans l139)) (by assumption)) (Ret.elim ?_)
            rintro w141 h141 _ l141 G141 rfl
            refine WL.know 140 (.bool true) (x := .bool (decide ((idsF row [((xs.getD k actE.dflt)).a]) = (idsF row [((xs.getD k actE.dflt)).a])))) (by kernel_rfl) (congrArg Value.bool (dec_self)) ?_
            refine WL.q (.bool false) (by kernel_rfl) rfl (by kernel_rfl) (by kernel_rfl) ?_
            refine WL.nil ?_
            refine EX.then_code ?_
            refine CW.cond_f (by kernel_rfl) (by kernel_rfl) ?_
            refine CW.skip ?_
            refine EX.then_code ?_
            refine CW.region ?_
            refine WL.q (.slice b137 ((cutF row [((xs.getD k actE.dflt)).a]).length) cb137) (by kernel_rfl) rfl (by kernel_rfl) (by kernel_rfl) ?_
            refine WL.q (.slice b137 ((cutF row [((xs.getD k actE.dflt)).a]).length) cb137) (by kernel_rfl) rfl (by kernel_rfl) (by kernel_rfl) ?_
            refine WL.nil ?_
            refine EX.in_block ?_
            refine EX.then_code ?_
            refine CW.seq ?_
            refine CW.region ?_
            refine WL.q (.pointer (some ⟨p5, 0, none⟩)) (by kernel_rfl) rfl (by kernel_rfl) (by kernel_rfl) ?_
            refine WL.call (by kernel_rfl) rfl (by kernel_rfl) (by kernel_rfl) (lenT_spec (row := (cutF row [((xs.getD k actE.dflt)).a])) G141 A139 (by first | omega | exact Nat.le_trans (cutF_len (by assumption) _) (by omega) | (simp only [List.length_append, List.length_cons, List.length_nil, List.nil_append]; omega))) (Ret.elim ?_)
            rintro w142 h142 _ l142 G142 rfl
            refine WL.q (.slice b137 ((cutF row [((xs.getD k actE.dflt)).a]).length) cb137) (by kernel_rfl) rfl (by kernel_rfl) (by kernel_rfl) ?_
            refine WL.q (.int .i64 ((cutF row [((xs.getD k actE.dflt)).a]).length : Int)) (by kernel_rfl) rfl (by kernel_rfl) (by kernel_rfl) ?_
            refine WL.q (.bool ((((cutF row [((xs.getD k actE.dflt)).a]).length : Int) : Int) != ((cutF row [((xs.getD k actE.dflt)).a]).length : Int))) (by kernel_rfl) rfl (by kernel_rfl) (by kernel_rfl) ?_
            refine WL.nil ?_
            refine EX.then_code ?_
            refine CW.cond ((((cutF row [((xs.getD k actE.dflt)).a]).length : Int) : Int) != ((cutF row [((xs.getD k actE.dflt)).a]).length : Int)) (by kernel_rfl) (by kernel_rfl) (fun c143 => ?_) (fun c143 => ?_)
            ·
              skip
              have d144 := bne_true c143
              refine CW.seq ?_
              refine CW.region ?_
              refine WL.q (.bool false) (by kernel_rfl) rfl (by kernel_rfl) (by kernel_rfl) ?_
              refine WL.nil ?_
              refine EX.then_code ?_
              refine CW.ret ?_
              refine EX.ret_block ?_
              refine EX.ret_then ?_
              refine EX.ret_then ?_
              refine EX.ret_block ?_
              refine EX.ret_then ?_
              refine EX.ret1 (v := (.bool false)) rfl (by kernel_rfl) ?_
              first | (exfalso; omega) | (exfalso; simp only [List.length_append, List.length_cons, List.length_nil, List.nil_append] at *; omega) | (exfalso; simp_all; done)
            ·
              skip
              have d145 := bne_false c143
              refine CW.skip ?_
              refine EX.in_block ?_
              refine EX.then_code ?_
              refine CW.region ?_
              refine WL.q (.int .i64 (k : Int)) (by kernel_rfl) rfl (by kernel_rfl) (by kernel_rfl) ?_
              refine WL.q (.int .i64 ((k + 1 : Nat) : Int)) (by kernel_rfl) rfl (by kernel_rfl) (q_int (x := IntKind.i64.wrap ((k : Int) + 1)) (by kernel_rfl) (wrap_to (by omega) (by omega) (by omega))) ?_
              refine WL.q (.int .i64 ((k + 1 : Nat) : Int)) (by kernel_rfl) rfl (by kernel_rfl) (by kernel_rfl) ?_
              refine WL.nil ?_
              have hcl := cutF_len hwf [((xs.getD k actE.dflt)).a]
              exact EX.then_loop ⟨k + 1, (cutF row [((xs.getD k actE.dflt)).a]), b137, cb137, last⟩ ⟨(by kernel_rfl), (by kernel_rfl), (by kernel_rfl), (by kernel_rfl), (lk_int (x := ((k + 1 : Nat) : Int)) (by kernel_rfl) (by first | omega | (dsimp only; done) | (dsimp only; omega))), trivial⟩ ⟨h142, M139, ((((((l6.trans l11).trans l136).trans l138).trans l139).trans l141).trans l142), G142, A139, (rb137.mono ((((PH.le_refl _).trans l139).trans l141).trans l142)), (by first | omega | (dsimp only [List.length_nil, List.length_append, List.length_cons]; omega)), (by first | omega | (dsimp only [List.length_nil, List.length_append, List.length_cons]; omega)), (by first | omega | (dsimp only [List.length_nil, List.length_append, List.length_cons]; omega)), (by first | omega | (simp only [List.length_append, List.length_cons, List.length_nil, List.nil_append]; omega))⟩ (by first | omega | (dsimp only; omega))
          ·
            skip
            have d146 := ne_of_beq_false c133
            refine CW.skip ?_
            refine EX.in_block ?_
            refine EX.then_code ?_
            refine CW.seq ?_
            refine CW.region ?_
            refine WL.q (.pointer (some ⟨p5, 0, none⟩)) (by kernel_rfl) rfl (by kernel_rfl) (by kernel_rfl) ?_
            refine WL.call (by kernel_rfl) rfl (by kernel_rfl) (by kernel_rfl) (lenT_spec (row := row) G11 A6 (by first | omega | exact Nat.le_trans (cutF_len (by assumption) _) (by omega) | (simp only [List.length_append, List.length_cons, List.length_nil, List.nil_append]; omega))) (Ret.elim ?_)
            rintro w147 h147 _ l147 G147 rfl
            refine WL.q (.slice ar row.length cr) (by kernel_rfl) rfl (by kernel_rfl) (by kernel_rfl) ?_
            refine WL.q (.int .i64 (row.length : Int)) (by kernel_rfl) rfl (by kernel_rfl) (by kernel_rfl) ?_
            refine WL.q (.bool (((row.length : Int) : Int) != (row.length : Int))) (by kernel_rfl) rfl (by kernel_rfl) (by kernel_rfl) ?_
            refine WL.nil ?_
            refine EX.then_code ?_
            refine CW.cond (((row.length : Int) : Int) != (row.length : Int)) (by kernel_rfl) (by kernel_rfl) (fun c148 => ?_) (fun c148 => ?_)
            ·
              skip
              have d149 := bne_true c148
              refine CW.seq ?_
              refine CW.region ?_
              refine WL.q (.bool false) (by kernel_rfl) rfl (by kernel_rfl) (by kernel_rfl) ?_
              refine WL.nil ?_
              refine EX.then_code ?_
              refine CW.ret ?_
              refine EX.ret_block ?_
              refine EX.ret_then ?_
              refine EX.ret_then ?_
              refine EX.ret_block ?_
              refine EX.ret_then ?_
              refine EX.ret1 (v := (.bool false)) rfl (by kernel_rfl) ?_
              first | (exfalso; omega) | (exfalso; simp only [List.length_append, List.length_cons, List.length_nil, List.nil_append] at *; omega) | (exfalso; simp_all; done)
            ·
              skip
              have d150 := bne_false c148
              refine CW.skip ?_
              refine EX.in_block ?_
              refine EX.then_code ?_
              refine CW.region ?_
              refine WL.q (.int .i64 (k : Int)) (by kernel_rfl) rfl (by kernel_rfl) (by kernel_rfl) ?_
              refine WL.q (.int .i64 ((k + 1 : Nat) : Int)) (by kernel_rfl) rfl (by kernel_rfl) (q_int (x := IntKind.i64.wrap ((k : Int) + 1)) (by kernel_rfl) (wrap_to (by omega) (by omega) (by omega))) ?_
              refine WL.q (.int .i64 ((k + 1 : Nat) : Int)) (by kernel_rfl) rfl (by kernel_rfl) (by kernel_rfl) ?_
              refine WL.nil ?_
              exact EX.then_loop ⟨k + 1, row, ar, cr, last⟩ ⟨(by kernel_rfl), (by kernel_rfl), (by kernel_rfl), (by kernel_rfl), (lk_int (x := ((k + 1 : Nat) : Int)) (by kernel_rfl) (by first | omega | (dsimp only; done) | (dsimp only; omega))), trivial⟩ ⟨h147, Mt6, ((l6.trans l11).trans l147), G147, A6, (Hr.mono (((PH.le_refl _).trans l11).trans l147)), (by first | omega | (dsimp only [List.length_nil, List.length_append, List.length_cons]; omega)), (by first | omega | (dsimp only [List.length_nil, List.length_append, List.length_cons]; omega)), (by first | omega | (dsimp only [List.length_nil, List.length_append, List.length_cons]; omega)), (by first | omega | (simp only [List.length_append, List.length_cons, List.length_nil, List.nil_append]; omega))⟩ (by first | omega | (dsimp only; omega))
    ·
      skip
      have d151 := of_decide_eq_false c7
      refine CW.exit ?_
      refine EX.exit_then ?_
      refine EX.exit_then ?_
      refine EX.exit_here ?_
      refine EX.then_code ?_
      refine CW.seq ?_
      refine CW.seq ?_
      refine CW.region ?_
      refine WL.q (.int .i64 0) (by kernel_rfl) rfl (by kernel_rfl) (by kernel_rfl) ?_
      refine WL.nil ?_
      refine EX.then_code ?_
      refine CW.block ?_
      refine CW.loop (β := Int) (fun x_ => [(3, (.pointer (some ⟨p5, 0, none⟩))), (4, (.slice ar row.length cr)), (5, (.int .i64 (last + 1))), (16, (.int .i64 x_))]) (fun x_ w_ => ∃ h_ Mu_, (PH.le h6 h_) ∧ (Wld K w_ h_ Mu_) ∧ (TreeA M Mu_ p5 row last) ∧ (0 ≤ x_) ∧ (x_ ≤ last + 2)) (fun x_ => (last + 2 - x_).toNat) 0 ⟨(by kernel_rfl), (by kernel_rfl), (by kernel_rfl), (by kernel_rfl), trivial⟩ ⟨h6, Mt6, (PH.le_refl _), G6, A6, (by first | omega | (dsimp only [List.length_nil, List.length_append, List.length_cons]; omega)), (by first | omega | (dsimp only [List.length_nil, List.length_append, List.length_cons]; omega))⟩ ?_
      rintro id w152 ⟨h152, Mu152, l152, G152, A152, hid, hid2⟩
      try dsimp only at *
      have hwf := A152.wf
      refine CW.seq ?_
      refine CW.seq ?_
      refine CW.region ?_
      refine WL.q (.int .i64 id) (by kernel_rfl) rfl (by kernel_rfl) (by kernel_rfl) ?_
      refine WL.q (.int .i64 (last + 1)) (by kernel_rfl) rfl (by kernel_rfl) (by kernel_rfl) ?_
      refine WL.q (.bool (decide (id ≤ (last + 1)))) (by kernel_rfl) rfl (by kernel_rfl) (by kernel_rfl) ?_
      refine WL.nil ?_
      refine EX.then_code ?_
      refine CW.cond (decide (id ≤ (last + 1))) (by kernel_rfl) (by kernel_rfl) (fun c153 => ?_) (fun c153 => ?_)
      ·
        skip
        have d154 := of_decide_eq_true c153
        refine CW.skip ?_
        refine EX.then_code ?_
        refine CW.seq ?_
        refine CW.block ?_
        refine CW.seq ?_
        refine CW.region ?_
        refine WL.q (.pointer (some ⟨p5, 0, none⟩)) (by kernel_rfl) rfl (by kernel_rfl) (by kernel_rfl) ?_
        refine WL.q (.int .i64 id) (by kernel_rfl) rfl (by kernel_rfl) (by kernel_rfl) ?_
        rcases Classical.em (id = 0 ∨ 0 ≤ atF row id) with hok | hok
        ·
          skip
          have cp155 := pathT_spec G152 A152 (by omega) id
          rw [decide_eq_true (hok)] at cp155
          refine WL.call (by kernel_rfl) rfl (by kernel_rfl) (by kernel_rfl) cp155 (Ret.elim ?_)
          rintro w155 h155 _ l155 G155 ⟨ap155, rfl, rp155⟩
          refine WL.q (.tuple #[(.slice ap155 ((pathN row (row.length + 1) id).length) ((pathN row (row.length + 1) id).length)), (.bool true)]) (by kernel_rfl) rfl (by kernel_rfl) (by kernel_rfl) ?_
          refine WL.q (.slice ap155 ((pathN row (row.length + 1) id).length) ((pathN row (row.length + 1) id).length)) (by kernel_rfl) rfl (by kernel_rfl) (by kernel_rfl) ?_
          refine WL.q (.bool true) (by kernel_rfl) rfl (by kernel_rfl) (by kernel_rfl) ?_
          refine WL.q (.slice ap155 ((pathN row (row.length + 1) id).length) ((pathN row (row.length + 1) id).length)) (by kernel_rfl) rfl (by kernel_rfl) (by kernel_rfl) ?_
          refine WL.q (.bool true) (by kernel_rfl) rfl (by kernel_rfl) (by kernel_rfl) ?_
          refine WL.nil ?_
          refine EX.then_code ?_
          refine CW.seq ?_
          refine CW.region ?_
          refine WL.q (.int .i64 id) (by kernel_rfl) rfl (by kernel_rfl) (by kernel_rfl) ?_
          refine WL.q (.bool ((id : Int) == 0)) (by kernel_rfl) rfl (by kernel_rfl) (by kernel_rfl) ?_
          refine WL.q (.bool ((id : Int) == 0)) (by kernel_rfl) rfl (by kernel_rfl) (by kernel_rfl) ?_
          rcases bool_cases ((id : Int) == 0) with c156 | c156
          ·
            skip
            have d157 := eq_of_beq c156
            refine WL.know 161 (.bool true) (x := .bool ((id : Int) == 0)) (by kernel_rfl) (congrArg Value.bool c156) ?_
            refine WL.skip (by kernel_rfl) rfl (by kernel_rfl) ?_
            refine WL.skip (by kernel_rfl) rfl (by kernel_rfl) ?_
            refine WL.skip (by kernel_rfl) rfl (by kernel_rfl) ?_
            refine WL.skip (by kernel_rfl) rfl (by kernel_rfl) ?_
            refine WL.q (.bool true) (by kernel_rfl) rfl (by kernel_rfl) (by kernel_rfl) ?_
            refine WL.q (.bool true) (by kernel_rfl) rfl (by kernel_rfl) (by kernel_rfl) ?_
            refine WL.nil ?_
            refine EX.then_code ?_
            refine CW.seq ?_
            refine CW.region ?_
            refine WL.q (.slice none 0 0) (by kernel_rfl) rfl (by kernel_rfl) (by kernel_rfl) ?_
            refine WL.nil ?_
            refine EX.then_code ?_
            refine CW.seq ?_
            refine CW.seq ?_
            refine CW.region ?_
            refine WL.q (.int .i64 0) (by kernel_rfl) rfl (by kernel_rfl) (by kernel_rfl) ?_
            refine WL.nil ?_
            refine EX.then_code ?_
            refine CW.block ?_
            refine CW.loop (β := Nat × Option Addr × Nat) (fun x_ => [(3, (.pointer (some ⟨p5, 0, none⟩))), (4, (.slice ar row.length cr)), (5, (.int .i64 (last + 1))), (16, (.int .i64 id)), (17, (.slice ap155 ((pathN row (row.length + 1) id).length) ((pathN row (row.length + 1) id).length))), (18, (.bool true)), (19, (.bool true)), (20, (.slice x_.2.1 ((kidsK row id x_.1).length) x_.2.2)), (21, (.int .i64 (x_.1 : Int)))]) (fun x_ w_ => ∃ h_ Mg_, (PH.le h155 h_) ∧ (Wld K w_ h_ Mg_) ∧ (Own 3 intE Mu152 Mg_ x_.2.1 x_.2.2 (kidsK row id x_.1)) ∧ (x_.1 ≤ row.length)) (fun x_ => row.length - x_.1) ⟨0, none, 0⟩ ⟨(by kernel_rfl), (by kernel_rfl), (by kernel_rfl), (by kernel_rfl), (by kernel_rfl), (by kernel_rfl), (by kernel_rfl), (by kernel_rfl), (lk_int (x := 0) (by kernel_rfl) (by first | omega | (dsimp only; done) | (dsimp only; omega))), trivial⟩ ⟨h155, Mu152, (PH.le_refl _), G155, (Own.nil 3 intE Mu152), (by first | omega | (dsimp only [List.length_nil, List.length_append, List.length_cons]; omega))⟩ ?_
            rintro ⟨j, ag, cg⟩ w158 ⟨h158, Mg_158, l158, G158, og158, hj⟩
            try dsimp only at *
            have hgl := kidsK_len row id j
            refine CW.seq ?_
            refine CW.seq ?_
            refine CW.region ?_
            refine WL.q (.int .i64 (j : Int)) (by kernel_rfl) rfl (by kernel_rfl) (by kernel_rfl) ?_
            refine WL.q (.slice ar row.length cr) (by kernel_rfl) rfl (by kernel_rfl) (by kernel_rfl) ?_
            refine WL.q (.int .i64 (row.length : Int)) (by kernel_rfl) rfl (by kernel_rfl) (by kernel_rfl) ?_
            refine WL.q (.bool (decide ((j : Int) < (row.length : Int)))) (by kernel_rfl) rfl (by kernel_rfl) (by kernel_rfl) ?_
            refine WL.nil ?_
            refine EX.then_code ?_
            refine CW.cond (decide ((j : Int) < (row.length : Int))) (by kernel_rfl) (by kernel_rfl) (fun c159 => ?_) (fun c159 => ?_)
            ·
              skip
              have d160 := of_decide_eq_true c159
              refine CW.skip ?_
              refine EX.then_code ?_
              refine CW.seq ?_
              refine CW.block ?_
              refine CW.seq ?_
              refine CW.region ?_
              refine WL.q (.slice ar row.length cr) (by kernel_rfl) rfl (by kernel_rfl) (by kernel_rfl) ?_
              refine WL.q (.int .i64 (j : Int)) (by kernel_rfl) rfl (by kernel_rfl) (by kernel_rfl) ?_
              refine WL.q (eptr ar (j * tokE.sz)) (by kernel_rfl) rfl (by kernel_rfl) (q_indexAddr (i := j) (E := tokE) (xs := row) (e := 34) (c := cr) (k := .i64) (m := row.length) rfl rfl (by kernel_rfl) (by kernel_rfl) (by kernel_rfl) (Hr.mono (((l152.trans l155).trans l158).trans G158.imm)) (by omega)) ?_
              refine WL.q (eptr ar (j * tokE.sz + 1)) (by kernel_rfl) rfl (by kernel_rfl) (q_fieldAddr_e (i := j) (k := j * tokE.sz) (off := 1) rfl (by kernel_rfl) (by kernel_rfl) (Hr.mono (((l152.trans l155).trans l158).trans G158.imm)) (by omega)) ?_
              refine WL.q (.int .i64 (((row.getD j tokE.dflt)).parent)) (by kernel_rfl) rfl (by kernel_rfl) (q_load_e (i := j) (k := 1) (E := tokE) rfl (by kernel_rfl) (by kernel_rfl) (Hr.mono (((l152.trans l155).trans l158).trans G158.imm)) (by omega) (by decide) (by kernel_rfl)) ?_
              refine WL.q (.int .i64 id) (by kernel_rfl) rfl (by kernel_rfl) (by kernel_rfl) ?_
              refine WL.q (.bool ((((row.getD j tokE.dflt)).parent : Int) == id)) (by kernel_rfl) rfl (by kernel_rfl) (by kernel_rfl) ?_
              refine WL.nil ?_
              refine EX.then_code ?_
              refine CW.cond ((((row.getD j tokE.dflt)).parent : Int) == id) (by kernel_rfl) (by kernel_rfl) (fun c161 => ?_) (fun c161 => ?_)
              ·
                skip
                have d162 := eq_of_beq c161
                refine CW.region ?_
                refine WL.q (.slice ag ((kidsK row id j).length) cg) (by kernel_rfl) rfl (by kernel_rfl) (by kernel_rfl) ?_
                refine WL.q (.slice ar row.length cr) (by kernel_rfl) rfl (by kernel_rfl) (by kernel_rfl) ?_
                refine WL.q (.int .i64 (j : Int)) (by kernel_rfl) rfl (by kernel_rfl) (by kernel_rfl) ?_
                refine WL.q (eptr ar (j * tokE.sz)) (by kernel_rfl) rfl (by kernel_rfl) (q_indexAddr (i := j) (E := tokE) (xs := row) (e := 34) (c := cr) (k := .i64) (m := row.length) rfl rfl (by kernel_rfl) (by kernel_rfl) (by kernel_rfl) (Hr.mono (((l152.trans l155).trans l158).trans G158.imm)) (by omega)) ?_
                refine WL.q (eptr ar (j * tokE.sz + 0)) (by kernel_rfl) rfl (by kernel_rfl) (q_fieldAddr_e (i := j) (k := j * tokE.sz) (off := 0) rfl (by kernel_rfl) (by kernel_rfl) (Hr.mono (((l152.trans l155).trans l158).trans G158.imm)) (by omega)) ?_
                refine WL.q (.int .i64 (((row.getD j tokE.dflt)).id)) (by kernel_rfl) rfl (by kernel_rfl) (q_load_e (i := j) (k := 0) (E := tokE) rfl (by kernel_rfl) (by kernel_rfl) (Hr.mono (((l152.trans l155).trans l158).trans G158.imm)) (by omega) (by decide) (by kernel_rfl)) ?_
                refine WL.new (ob := (.cells #[(.int .i64 (((row.getD j tokE.dflt)).id))] 3)) G158 (by kernel_rfl) rfl (by kernel_rfl) (fun b_ => .slice (some ⟨b_, 0, none⟩) 1 1) (fun u_ => by kernel_rfl) ?_
                intro b163 w163 n163 i163 G163
                refine WL.append (e := 3) (bytes := 8) (cap := cg) (c2 := 1) (M0 := Mu152) (xs := (kidsK row id j)) (ys := ([((row.getD j tokE.dflt)).id])) G163 (PH.le_set _ n163) og158 (PH.le_refl _) (RS.blk (E := intE) (xs := [((row.getD j tokE.dflt)).id]) (G163.own _ _ (PH.set_same _ _ _)) (by kernel_rfl)) rfl (by kernel_rfl) (by kernel_rfl) rfl (by kernel_rfl) (by kernel_rfl) (by kernel_rfl) (by first | (simp only [maxLen, List.length_append, List.length_cons, List.length_nil]; omega) | (simp only [maxLen]; omega)) (by first | omega | (simp only [List.length_append, List.length_cons, List.length_nil]; omega)) ?_
                intro a164 k164 w164 M164 G164 o164 z164
                refine WL.q (.slice a164 (((kidsK row id j) ++ ([((row.getD j tokE.dflt)).id])).length) k164) (by kernel_rfl) rfl (by kernel_rfl) (by kernel_rfl) ?_
                refine WL.nil ?_
                refine EX.in_block ?_
                refine EX.then_code ?_
                refine CW.region ?_
                refine WL.q (.int .i64 (j : Int)) (by kernel_rfl) rfl (by kernel_rfl) (by kernel_rfl) ?_
                refine WL.q (.int .i64 ((j + 1 : Nat) : Int)) (by kernel_rfl) rfl (by kernel_rfl) (q_int (x := IntKind.i64.wrap ((j : Int) + 1)) (by kernel_rfl) (wrap_to (by omega) (by omega) (by omega))) ?_
                refine WL.q (.int .i64 ((j + 1 : Nat) : Int)) (by kernel_rfl) rfl (by kernel_rfl) (by kernel_rfl) ?_
                refine WL.nil ?_
                have q1 := kidsK_yes row id (k := j) (by omega) (by assumption)
                exact EX.then_loop ⟨j + 1, a164, k164⟩ ⟨(by kernel_rfl), (by kernel_rfl), (by kernel_rfl), (by kernel_rfl), (by kernel_rfl), (by kernel_rfl), (by kernel_rfl), (lk_val (x := (.slice a164 (((kidsK row id j) ++ ([((row.getD j tokE.dflt)).id])).length) k164)) (by kernel_rfl) (by rw [q1]; first | done | rfl)), (lk_int (x := ((j + 1 : Nat) : Int)) (by kernel_rfl) (by first | omega | (dsimp only; done) | (dsimp only; omega))), trivial⟩ ⟨h158, M164, l158, G164, (q1.symm ▸ o164), (by first | omega | (dsimp only [List.length_nil, List.length_append, List.length_cons]; omega))⟩ (by first | omega | (dsimp only; omega))
              ·
                skip
                have d165 := ne_of_beq_false c161
                refine CW.skip ?_
                refine EX.in_block ?_
                refine EX.then_code ?_
                refine CW.region ?_
                refine WL.q (.int .i64 (j : Int)) (by kernel_rfl) rfl (by kernel_rfl) (by kernel_rfl) ?_
                refine WL.q (.int .i64 ((j + 1 : Nat) : Int)) (by kernel_rfl) rfl (by kernel_rfl) (q_int (x := IntKind.i64.wrap ((j : Int) + 1)) (by kernel_rfl) (wrap_to (by omega) (by omega) (by omega))) ?_
                refine WL.q (.int .i64 ((j + 1 : Nat) : Int)) (by kernel_rfl) rfl (by kernel_rfl) (by kernel_rfl) ?_
                refine WL.nil ?_
                have q1 := kidsK_no row id (k := j) (by omega) (by assumption)
                exact EX.then_loop ⟨j + 1, ag, cg⟩ ⟨(by kernel_rfl), (by kernel_rfl), (by kernel_rfl), (by kernel_rfl), (by kernel_rfl), (by kernel_rfl), (by kernel_rfl), (lk_val (x := (.slice ag ((kidsK row id j).length) cg)) (by kernel_rfl) (by rw [q1]; first | done | rfl)), (lk_int (x := ((j + 1 : Nat) : Int)) (by kernel_rfl) (by first | omega | (dsimp only; done) | (dsimp only; omega))), trivial⟩ ⟨h158, Mg_158, l158, G158, (q1.symm ▸ og158), (by first | omega | (dsimp only [List.length_nil, List.length_append, List.length_cons]; omega))⟩ (by first | omega | (dsimp only; omega))
            ·
              skip
              have d166 := of_decide_eq_false c159
              refine CW.exit ?_
              refine EX.exit_then ?_
              refine EX.exit_then ?_
              refine EX.exit_here ?_
              refine EX.then_code ?_
              refine CW.seq ?_
              refine CW.region ?_
              refine WL.q (.bool true) (by kernel_rfl) rfl (by kernel_rfl) (by kernel_rfl) ?_
              refine WL.q (.bool true) (by kernel_rfl) rfl (by kernel_rfl) (by kernel_rfl) ?_
              refine WL.q (.bool false) (by kernel_rfl) rfl (by kernel_rfl) (by kernel_rfl) ?_
              refine WL.q (.bool false) (by kernel_rfl) rfl (by kernel_rfl) (by kernel_rfl) ?_
              refine WL.q (.slice ap155 ((pathN row (row.length + 1) id).length) ((pathN row (row.length + 1) id).length)) (by kernel_rfl) rfl (by kernel_rfl) (by kernel_rfl) ?_
              refine WL.q (.slice ar row.length cr) (by kernel_rfl) rfl (by kernel_rfl) (by kernel_rfl) ?_
              refine WL.q (.int .i64 id) (by kernel_rfl) rfl (by kernel_rfl) (by kernel_rfl) ?_
              refine WL.call (by kernel_rfl) rfl (by kernel_rfl) (by kernel_rfl) (path_spec (l := row) (cl := cr) G158 id (Hr.mono ((l152.trans l155).trans l158)) (by omega) A152.wf.ahead) (Ret.elim ?_)
              rintro w168 h168 _ l168 G168 ⟨ax167, cx167, rfl, rx167⟩
              obtain rfl : j = row.length := by omega
              obtain ⟨h169, l169, G169, r169⟩ := og158.freeze G168
              have hil170 : (pathN row (row.length + 1) id).length ≤ 1000000 := by first | exact Nat.le_trans (pathN_len _ _ _) (by omega) | exact Nat.le_trans (kidsOf_len _ _) (by omega)
              refine WL.call (by kernel_rfl) rfl (by kernel_rfl) (by kernel_rfl) (ints_spec (ax := ap155) (ay := ax167) (xs := (pathN row (row.length + 1) id)) (ys := (pathN row (row.length + 1) id)) (cx := ((pathN row (row.length + 1) id).length)) (cy := cx167) G169 (rp155.mono ((l158.trans l168).trans l169)) (rx167.mono ((PH.le_refl _).trans l169)) (by assumption)) (Ret.elim ?_)
              rintro w171 h171 _ l171 G171 rfl
              refine WL.know 196 (.bool true) (x := .bool (decide ((pathN row (row.length + 1) id) = (pathN row (row.length + 1) id)))) (by kernel_rfl) (congrArg Value.bool (dec_self)) ?_
              refine WL.q (.bool false) (by kernel_rfl) rfl (by kernel_rfl) (by kernel_rfl) ?_
              refine WL.q (.bool false) (by kernel_rfl) rfl (by kernel_rfl) (by kernel_rfl) ?_
              refine WL.q (.bool false) (by kernel_rfl) rfl (by kernel_rfl) (by kernel_rfl) ?_
              refine WL.q (.bool true) (by kernel_rfl) rfl (by kernel_rfl) (by kernel_rfl) ?_
              refine WL.q (.bool true) (by kernel_rfl) rfl (by kernel_rfl) (by kernel_rfl) ?_
              refine WL.q (.pointer (some ⟨p5, 0, none⟩)) (by kernel_rfl) rfl (by kernel_rfl) (by kernel_rfl) ?_
              refine WL.q (.int .i64 id) (by kernel_rfl) rfl (by kernel_rfl) (by kernel_rfl) ?_
              refine WL.call (by kernel_rfl) rfl (by kernel_rfl) (by kernel_rfl) (kidsT_spec G171 A152 (by omega) id) (Ret.elim ?_)
              rintro w172 h172 _ l172 G172 ⟨ak172, rfl, rk172⟩
              refine WL.q (.slice ag ((kidsK row id row.length).length) cg) (by kernel_rfl) rfl (by kernel_rfl) (by kernel_rfl) ?_
              have hil173 : (kidsOf row id).length ≤ 1000000 := by first | exact Nat.le_trans (pathN_len _ _ _) (by omega) | exact Nat.le_trans (kidsOf_len _ _) (by omega)
              refine WL.call (by kernel_rfl) rfl (by kernel_rfl) (by kernel_rfl) (ints_spec (ax := ak172) (ay := ag) (xs := (kidsOf row id)) (ys := (kidsK row id row.length)) (cx := ((kidsOf row id).length)) (cy := cg) G172 (rk172.mono (PH.le_refl _)) (r169.mono (((PH.le_refl _).trans l171).trans l172)) (by assumption)) (Ret.elim ?_)
              rintro w174 h174 _ l174 G174 rfl
              refine WL.know 206 (.bool true) (x := .bool (decide ((kidsOf row id) = (kidsK row id row.length)))) (by kernel_rfl) (congrArg Value.bool (by rw [kidsK_full]; exact dec_self)) ?_
              refine WL.q (.bool false) (by kernel_rfl) rfl (by kernel_rfl) (by kernel_rfl) ?_
              refine WL.q (.bool false) (by kernel_rfl) rfl (by kernel_rfl) (by kernel_rfl) ?_
              refine WL.q (.bool false) (by kernel_rfl) rfl (by kernel_rfl) (by kernel_rfl) ?_
              refine WL.q (.bool false) (by kernel_rfl) rfl (by kernel_rfl) (by kernel_rfl) ?_
              refine WL.q (.bool true) (by kernel_rfl) rfl (by kernel_rfl) (by kernel_rfl) ?_
              refine WL.q (.bool false) (by kernel_rfl) rfl (by kernel_rfl) (by kernel_rfl) ?_
              refine WL.q (.bool false) (by kernel_rfl) rfl (by kernel_rfl) (by kernel_rfl) ?_
              refine WL.skip (by kernel_rfl) rfl (by kernel_rfl) ?_
              refine WL.skip (by kernel_rfl) rfl (by kernel_rfl) ?_
              refine WL.skip (by kernel_rfl) rfl (by kernel_rfl) ?_
              refine WL.skip (by kernel_rfl) rfl (by kernel_rfl) ?_
              refine WL.skip (by kernel_rfl) rfl (by kernel_rfl) ?_
              refine WL.q (.bool false) (by kernel_rfl) rfl (by kernel_rfl) (by kernel_rfl) ?_
              refine WL.q (.bool false) (by kernel_rfl) rfl (by kernel_rfl) (by kernel_rfl) ?_
              refine WL.nil ?_
              refine EX.then_code ?_
              refine CW.cond_f (by kernel_rfl) (by kernel_rfl) ?_
              refine CW.skip ?_
              refine EX.in_block ?_
              refine EX.then_code ?_
              refine CW.region ?_
              refine WL.q (.int .i64 id) (by kernel_rfl) rfl (by kernel_rfl) (by kernel_rfl) ?_
              refine WL.q (.int .i64 (id + 1)) (by kernel_rfl) rfl (by kernel_rfl) (q_int (x := IntKind.i64.wrap (id + 1)) (by kernel_rfl) (wrap_to (by omega) (by omega) (by omega))) ?_
              refine WL.q (.int .i64 (id + 1)) (by kernel_rfl) rfl (by kernel_rfl) (by kernel_rfl) ?_
              refine WL.nil ?_
              exact EX.then_loop (id + 1) ⟨(by kernel_rfl), (by kernel_rfl), (by kernel_rfl), (by kernel_rfl), trivial⟩ ⟨h174, Mu152, (((((((l152.trans l155).trans l158).trans l168).trans l169).trans l171).trans l172).trans l174), G174, A152, (by first | omega | (dsimp only [List.length_nil, List.length_append, List.length_cons]; omega)), (by first | omega | (dsimp only [List.length_nil, List.length_append, List.length_cons]; omega))⟩ (by first | omega | (dsimp only; omega))
          ·
            skip
            have d175 := ne_of_beq_false c156
            refine WL.know 161 (.bool false) (x := .bool ((id : Int) == 0)) (by kernel_rfl) (congrArg Value.bool c156) ?_
            refine WL.q (.slice ar row.length cr) (by kernel_rfl) rfl (by kernel_rfl) (by kernel_rfl) ?_
            refine WL.q (.int .i64 id) (by kernel_rfl) rfl (by kernel_rfl) (by kernel_rfl) ?_
            refine WL.call (by kernel_rfl) rfl (by kernel_rfl) (by kernel_rfl) (at_spec (l := row) (cl := cr) G155 id (Hr.mono (l152.trans l155)) (by omega)) (Ret.elim ?_)
            rintro w176 h176 _ l176 G176 rfl
            have e177 := atF_bd row id
            refine WL.q (.bool (decide ((atF row id) ≥ 0))) (by kernel_rfl) rfl (by kernel_rfl) (by kernel_rfl) ?_
            refine WL.q (.bool (decide ((atF row id) ≥ 0))) (by kernel_rfl) rfl (by kernel_rfl) (by kernel_rfl) ?_
            refine WL.q (.bool (decide ((atF row id) ≥ 0))) (by kernel_rfl) rfl (by kernel_rfl) (by kernel_rfl) ?_
            refine WL.nil ?_
            refine EX.then_code ?_
            refine CW.seq ?_
            refine CW.region ?_
            refine WL.q (.slice none 0 0) (by kernel_rfl) rfl (by kernel_rfl) (by kernel_rfl) ?_
            refine WL.nil ?_
            refine EX.then_code ?_
            refine CW.seq ?_
            refine CW.seq ?_
            refine CW.region ?_
            refine WL.q (.int .i64 0) (by kernel_rfl) rfl (by kernel_rfl) (by kernel_rfl) ?_
            refine WL.nil ?_
            refine EX.then_code ?_
            refine CW.block ?_
            refine CW.loop (β := Nat × Option Addr × Nat) (fun x_ => [(3, (.pointer (some ⟨p5, 0, none⟩))), (4, (.slice ar row.length cr)), (5, (.int .i64 (last + 1))), (16, (.int .i64 id)), (17, (.slice ap155 ((pathN row (row.length + 1) id).length) ((pathN row (row.length + 1) id).length))), (18, (.bool true)), (19, (.bool (decide ((atF row id) ≥ 0)))), (20, (.slice x_.2.1 ((kidsK row id x_.1).length) x_.2.2)), (21, (.int .i64 (x_.1 : Int)))]) (fun x_ w_ => ∃ h_ Mg_, (PH.le h176 h_) ∧ (Wld K w_ h_ Mg_) ∧ (Own 3 intE Mu152 Mg_ x_.2.1 x_.2.2 (kidsK row id x_.1)) ∧ (x_.1 ≤ row.length)) (fun x_ => row.length - x_.1) ⟨0, none, 0⟩ ⟨(by kernel_rfl), (by kernel_rfl), (by kernel_rfl), (by kernel_rfl), (by kernel_rfl), (by kernel_rfl), (by kernel_rfl), (by kernel_rfl), (lk_int (x := 0) (by kernel_rfl) (by first | omega | (dsimp only; done) | (dsimp only; omega))), trivial⟩ ⟨h176, Mu152, (PH.le_refl _), G176, (Own.nil 3 intE Mu152), (by first | omega | (dsimp only [List.length_nil, List.length_append, List.length_cons]; omega))⟩ ?_
            rintro ⟨j, ag, cg⟩ w178 ⟨h178, Mg_178, l178, G178, og178, hj⟩
            try dsimp only at *
            have hgl := kidsK_len row id j
            refine CW.seq ?_
            refine CW.seq ?_
            refine CW.region ?_
            refine WL.q (.int .i64 (j : Int)) (by kernel_rfl) rfl (by kernel_rfl) (by kernel_rfl) ?_
            refine WL.q (.slice ar row.length cr) (by kernel_rfl) rfl (by kernel_rfl) (by kernel_rfl) ?_
            refine WL.q (.int .i64 (row.length : Int)) (by kernel_rfl) rfl (by kernel_rfl) (by kernel_rfl) ?_
            refine WL.q (.bool (decide ((j : Int) < (row.length : Int)))) (by kernel_rfl) rfl (by kernel_rfl) (by kernel_rfl) ?_
            refine WL.nil ?_
            refine EX.then_code ?_
            refine CW.cond (decide ((j : Int) < (row.length : Int))) (by kernel_rfl) (by kernel_rfl) (fun c179 => ?_) (fun c179 => ?_)
            ·
              skip
              have d180 := of_decide_eq_true c179
              refine CW.skip ?_
              refine EX.then_code ?_
              refine CW.seq ?_
              refine CW.block ?_
              refine CW.seq ?_
              refine CW.region ?_
              refine WL.q (.slice ar row.length cr) (by kernel_rfl) rfl (by kernel_rfl) (by kernel_rfl) ?_
              refine WL.q (.int .i64 (j : Int)) (by kernel_rfl) rfl (by kernel_rfl) (by kernel_rfl) ?_
              refine WL.q (eptr ar (j * tokE.sz)) (by kernel_rfl) rfl (by kernel_rfl) (q_indexAddr (i := j) (E := tokE) (xs := row) (e := 34) (c := cr) (k := .i64) (m := row.length) rfl rfl (by kernel_rfl) (by kernel_rfl) (by kernel_rfl) (Hr.mono ((((l152.trans l155).trans l176).trans l178).trans G178.imm)) (by omega)) ?_
              refine WL.q (eptr ar (j * tokE.sz + 1)) (by kernel_rfl) rfl (by kernel_rfl) (q_fieldAddr_e (i := j) (k := j * tokE.sz) (off := 1) rfl (by kernel_rfl) (by kernel_rfl) (Hr.mono ((((l152.trans l155).trans l176).trans l178).trans G178.imm)) (by omega)) ?_
              refine WL.q (.int .i64 (((row.getD j tokE.dflt)).parent)) (by kernel_rfl) rfl (by kernel_rfl) (q_load_e (i := j) (k := 1) (E := tokE) rfl (by kernel_rfl) (by kernel_rfl) (Hr.mono ((((l152.trans l155).trans l176).trans l178).trans G178.imm)) (by omega) (by decide) (by kernel_rfl)) ?_
              refine WL.q (.int .i64 id) (by kernel_rfl) rfl (by kernel_rfl) (by kernel_rfl) ?_
              refine WL.q (.bool ((((row.getD j tokE.dflt)).parent : Int) == id)) (by kernel_rfl) rfl (by kernel_rfl) (by kernel_rfl) ?_
              refine WL.nil ?_
              refine EX.then_code ?_
              refine CW.cond ((((row.getD j tokE.dflt)).parent : Int) == id) (by kernel_rfl) (by kernel_rfl) (fun c181 => ?_) (fun c181 => ?_)
              ·
                skip
                have d182 := eq_of_beq c181
                refine CW.region ?_
                refine WL.q (.slice ag ((kidsK row id j).length) cg) (by kernel_rfl) rfl (by kernel_rfl) (by kernel_rfl) ?_
                refine WL.q (.slice ar row.length cr) (by kernel_rfl) rfl (by kernel_rfl) (by kernel_rfl) ?_
                refine WL.q (.int .i64 (j : Int)) (by kernel_rfl) rfl (by kernel_rfl) (by kernel_rfl) ?_
                refine WL.q (eptr ar (j * tokE.sz)) (by kernel_rfl) rfl (by kernel_rfl) (q_indexAddr (i := j) (E := tokE) (xs := row) (e := 34) (c := cr) (k := .i64) (m := row.length) rfl rfl (by kernel_rfl) (by kernel_rfl) (by kernel_rfl) (Hr.mono ((((l152.trans l155).trans l176).trans l178).trans G178.imm)) (by omega)) ?_
                refine WL.q (eptr ar (j * tokE.sz + 0)) (by kernel_rfl) rfl (by kernel_rfl) (q_fieldAddr_e (i := j) (k := j * tokE.sz) (off := 0) rfl (by kernel_rfl) (by kernel_rfl) (Hr.mono ((((l152.trans l155).trans l176).trans l178).trans G178.imm)) (by omega)) ?_
                refine WL.q (.int .i64 (((row.getD j tokE.dflt)).id)) (by kernel_rfl) rfl (by kernel_rfl) (q_load_e (i := j) (k := 0) (E := tokE) rfl (by kernel_rfl) (by kernel_rfl) (Hr.mono ((((l152.trans l155).trans l176).trans l178).trans G178.imm)) (by omega) (by decide) (by kernel_rfl)) ?_
                refine WL.new (ob := (.cells #[(.int .i64 (((row.getD j tokE.dflt)).id))] 3)) G178 (by kernel_rfl) rfl (by kernel_rfl) (fun b_ => .slice (some ⟨b_, 0, none⟩) 1 1) (fun u_ => by kernel_rfl) ?_
                intro b183 w183 n183 i183 G183
                refine WL.append (e := 3) (bytes := 8) (cap := cg) (c2 := 1) (M0 := Mu152) (xs := (kidsK row id j)) (ys := ([((row.getD j tokE.dflt)).id])) G183 (PH.le_set _ n183) og178 (PH.le_refl _) (RS.blk (E := intE) (xs := [((row.getD j tokE.dflt)).id]) (G183.own _ _ (PH.set_same _ _ _)) (by kernel_rfl)) rfl (by kernel_rfl) (by kernel_rfl) rfl (by kernel_rfl) (by kernel_rfl) (by kernel_rfl) (by first | (simp only [maxLen, List.length_append, List.length_cons, List.length_nil]; omega) | (simp only [maxLen]; omega)) (by first | omega | (simp only [List.length_append, List.length_cons, List.length_nil]; omega)) ?_
                intro a184 k184 w184 M184 G184 o184 z184
                refine WL.q (.slice a184 (((kidsK row id j) ++ ([((row.getD j tokE.dflt)).id])).length) k184) (by kernel_rfl) rfl (by kernel_rfl) (by kernel_rfl) ?_
                refine WL.nil ?_
                refine EX.in_block ?_
                refine EX.then_code ?_
                refine CW.region ?_
                refine WL.q (.int .i64 (j : Int)) (by kernel_rfl) rfl (by kernel_rfl) (by kernel_rfl) ?_
                refine WL.q (.int .i64 ((j + 1 : Nat) : Int)) (by kernel_rfl) rfl (by kernel_rfl) (q_int (x := IntKind.i64.wrap ((j : Int) + 1)) (by kernel_rfl) (wrap_to (by omega) (by omega) (by omega))) ?_
                refine WL.q (.int .i64 ((j + 1 : Nat) : Int)) (by kernel_rfl) rfl (by kernel_rfl) (by kernel_rfl) ?_
                refine WL.nil ?_
                have q1 := kidsK_yes row id (k := j) (by omega) (by assumption)
                exact EX.then_loop ⟨j + 1, a184, k184⟩ ⟨(by kernel_rfl), (by kernel_rfl), (by kernel_rfl), (by kernel_rfl), (by kernel_rfl), (by kernel_rfl), (by kernel_rfl), (lk_val (x := (.slice a184 (((kidsK row id j) ++ ([((row.getD j tokE.dflt)).id])).length) k184)) (by kernel_rfl) (by rw [q1]; first | done | rfl)), (lk_int (x := ((j + 1 : Nat) : Int)) (by kernel_rfl) (by first | omega | (dsimp only; done) | (dsimp only; omega))), trivial⟩ ⟨h178, M184, l178, G184, (q1.symm ▸ o184), (by first | omega | (dsimp only [List.length_nil, List.length_append, List.length_cons]; omega))⟩ (by first | omega | (dsimp only; omega))
              ·
                skip
                have d185 := ne_of_beq_false c181
                refine CW.skip ?_
                refine EX.in_block ?_
                refine EX.then_code ?_
                refine CW.region ?_
                refine WL.q (.int .i64 (j : Int)) (by kernel_rfl) rfl (by kernel_rfl) (by kernel_rfl) ?_
                refine WL.q (.int .i64 ((j + 1 : Nat) : Int)) (by kernel_rfl) rfl (by kernel_rfl) (q_int (x := IntKind.i64.wrap ((j : Int) + 1)) (by kernel_rfl) (wrap_to (by omega) (by omega) (by omega))) ?_
                refine WL.q (.int .i64 ((j + 1 : Nat) : Int)) (by kernel_rfl) rfl (by kernel_rfl) (by kernel_rfl) ?_
                refine WL.nil ?_
                have q1 := kidsK_no row id (k := j) (by omega) (by assumption)
                exact EX.then_loop ⟨j + 1, ag, cg⟩ ⟨(by kernel_rfl), (by kernel_rfl), (by kernel_rfl), (by kernel_rfl), (by kernel_rfl), (by kernel_rfl), (by kernel_rfl), (lk_val (x := (.slice ag ((kidsK row id j).length) cg)) (by kernel_rfl) (by rw [q1]; first | done | rfl)), (lk_int (x := ((j + 1 : Nat) : Int)) (by kernel_rfl) (by first | omega | (dsimp only; done) | (dsimp only; omega))), trivial⟩ ⟨h178, Mg_178, l178, G178, (q1.symm ▸ og178), (by first | omega | (dsimp only [List.length_nil, List.length_append, List.length_cons]; omega))⟩ (by first | omega | (dsimp only; omega))
            ·
              skip
              have d186 := of_decide_eq_false c179
              refine CW.exit ?_
              refine EX.exit_then ?_
              refine EX.exit_then ?_
              refine EX.exit_here ?_
              refine EX.then_code ?_
              refine CW.seq ?_
              refine CW.region ?_
              refine WL.q (.bool true) (by kernel_rfl) rfl (by kernel_rfl) (by kernel_rfl) ?_
              refine WL.q (.bool (decide ((atF row id) ≥ 0))) (by kernel_rfl) rfl (by kernel_rfl) (by kernel_rfl) ?_
              rcases bool_cases (decide ((atF row id) ≥ 0)) with c187 | c187
              ·
                skip
                have d188 := of_decide_eq_true c187
                refine WL.know 189 (.bool true) (x := .bool (decide ((atF row id) ≥ 0))) (by kernel_rfl) (congrArg Value.bool c187) ?_
                refine WL.q (.bool false) (by kernel_rfl) rfl (by kernel_rfl) (by kernel_rfl) ?_
                refine WL.q (.bool false) (by kernel_rfl) rfl (by kernel_rfl) (by kernel_rfl) ?_
                refine WL.q (.slice ap155 ((pathN row (row.length + 1) id).length) ((pathN row (row.length + 1) id).length)) (by kernel_rfl) rfl (by kernel_rfl) (by kernel_rfl) ?_
                refine WL.q (.slice ar row.length cr) (by kernel_rfl) rfl (by kernel_rfl) (by kernel_rfl) ?_
                refine WL.q (.int .i64 id) (by kernel_rfl) rfl (by kernel_rfl) (by kernel_rfl) ?_
                refine WL.call (by kernel_rfl) rfl (by kernel_rfl) (by kernel_rfl) (path_spec (l := row) (cl := cr) G178 id (Hr.mono (((l152.trans l155).trans l176).trans l178)) (by omega) A152.wf.ahead) (Ret.elim ?_)
                rintro w190 h190 _ l190 G190 ⟨ax189, cx189, rfl, rx189⟩
                obtain rfl : j = row.length := by omega
                obtain ⟨h191, l191, G191, r191⟩ := og178.freeze G190
                have hil192 : (pathN row (row.length + 1) id).length ≤ 1000000 := by first | exact Nat.le_trans (pathN_len _ _ _) (by omega) | exact Nat.le_trans (kidsOf_len _ _) (by omega)
                refine WL.call (by kernel_rfl) rfl (by kernel_rfl) (by kernel_rfl) (ints_spec (ax := ap155) (ay := ax189) (xs := (pathN row (row.length + 1) id)) (ys := (pathN row (row.length + 1) id)) (cx := ((pathN row (row.length + 1) id).length)) (cy := cx189) G191 (rp155.mono (((((PH.le_refl _).trans l176).trans l178).trans l190).trans l191)) (rx189.mono ((PH.le_refl _).trans l191)) (by assumption)) (Ret.elim ?_)
                rintro w193 h193 _ l193 G193 rfl
                refine WL.know 196 (.bool true) (x := .bool (decide ((pathN row (row.length + 1) id) = (pathN row (row.length + 1) id)))) (by kernel_rfl) (congrArg Value.bool (dec_self)) ?_
                refine WL.q (.bool false) (by kernel_rfl) rfl (by kernel_rfl) (by kernel_rfl) ?_
                refine WL.q (.bool false) (by kernel_rfl) rfl (by kernel_rfl) (by kernel_rfl) ?_
                refine WL.q (.bool false) (by kernel_rfl) rfl (by kernel_rfl) (by kernel_rfl) ?_
                refine WL.q (.bool (decide ((atF row id) ≥ 0))) (by kernel_rfl) rfl (by kernel_rfl) (by kernel_rfl) ?_
                refine WL.q (.bool (decide ((atF row id) ≥ 0))) (by kernel_rfl) rfl (by kernel_rfl) (by kernel_rfl) ?_
                refine WL.know 201 (.bool true) (x := .bool (decide ((atF row id) ≥ 0))) (by kernel_rfl) (congrArg Value.bool c187) ?_
                refine WL.q (.pointer (some ⟨p5, 0, none⟩)) (by kernel_rfl) rfl (by kernel_rfl) (by kernel_rfl) ?_
                refine WL.q (.int .i64 id) (by kernel_rfl) rfl (by kernel_rfl) (by kernel_rfl) ?_
                refine WL.call (by kernel_rfl) rfl (by kernel_rfl) (by kernel_rfl) (kidsT_spec G193 A152 (by omega) id) (Ret.elim ?_)
                rintro w194 h194 _ l194 G194 ⟨ak194, rfl, rk194⟩
                refine WL.q (.slice ag ((kidsK row id row.length).length) cg) (by kernel_rfl) rfl (by kernel_rfl) (by kernel_rfl) ?_
                have hil195 : (kidsOf row id).length ≤ 1000000 := by first | exact Nat.le_trans (pathN_len _ _ _) (by omega) | exact Nat.le_trans (kidsOf_len _ _) (by omega)
                refine WL.call (by kernel_rfl) rfl (by kernel_rfl) (by kernel_rfl) (ints_spec (ax := ak194) (ay := ag) (xs := (kidsOf row id)) (ys := (kidsK row id row.length)) (cx := ((kidsOf row id).length)) (cy := cg) G194 (rk194.mono (PH.le_refl _)) (r191.mono (((PH.le_refl _).trans l193).trans l194)) (by assumption)) (Ret.elim ?_)
                rintro w196 h196 _ l196 G196 rfl
                refine WL.know 206 (.bool true) (x := .bool (decide ((kidsOf row id) = (kidsK row id row.length)))) (by kernel_rfl) (congrArg Value.bool (by rw [kidsK_full]; exact dec_self)) ?_
                refine WL.q (.bool false) (by kernel_rfl) rfl (by kernel_rfl) (by kernel_rfl) ?_
                refine WL.q (.bool false) (by kernel_rfl) rfl (by kernel_rfl) (by kernel_rfl) ?_
                refine WL.q (.bool false) (by kernel_rfl) rfl (by kernel_rfl) (by kernel_rfl) ?_
                refine WL.q (.bool false) (by kernel_rfl) rfl (by kernel_rfl) (by kernel_rfl) ?_
                refine WL.q (.bool (decide ((atF row id) ≥ 0))) (by kernel_rfl) rfl (by kernel_rfl) (by kernel_rfl) ?_
                refine WL.q (.bool (!(decide ((atF row id) ≥ 0)))) (by kernel_rfl) rfl (by kernel_rfl) (by kernel_rfl) ?_
                refine WL.q (.bool (!(decide ((atF row id) ≥ 0)))) (by kernel_rfl) rfl (by kernel_rfl) (by kernel_rfl) ?_
                rcases bool_cases (!(decide ((atF row id) ≥ 0))) with c197 | c197
                ·
                  skip
                  have d198 := not_true c197
                  have d199 := of_decide_eq_false d198
                  refine WL.know 213 (.bool true) (x := .bool (!(decide ((atF row id) ≥ 0)))) (by kernel_rfl) (congrArg Value.bool c197) ?_
                  refine WL.q (.pointer (some ⟨p5, 0, none⟩)) (by kernel_rfl) rfl (by kernel_rfl) (by kernel_rfl) ?_
                  refine WL.q (.int .i64 id) (by kernel_rfl) rfl (by kernel_rfl) (by kernel_rfl) ?_
                  refine WL.call (by kernel_rfl) rfl (by kernel_rfl) (by kernel_rfl) (kidsT_spec G196 A152 (by omega) id) (Ret.elim ?_)
                  rintro w200 h200 _ l200 G200 ⟨ak200, rfl, rk200⟩
                  refine WL.q (.int .i64 ((kidsOf row id).length : Int)) (by kernel_rfl) rfl (by kernel_rfl) (by kernel_rfl) ?_
                  refine WL.q (.bool ((((kidsOf row id).length : Int) : Int) != 0)) (by kernel_rfl) rfl (by kernel_rfl) (by kernel_rfl) ?_
                  refine WL.q (.bool ((((kidsOf row id).length : Int) : Int) != 0)) (by kernel_rfl) rfl (by kernel_rfl) (by kernel_rfl) ?_
                  refine WL.q (.bool ((((kidsOf row id).length : Int) : Int) != 0)) (by kernel_rfl) rfl (by kernel_rfl) (by kernel_rfl) ?_
                  refine WL.nil ?_
                  refine EX.then_code ?_
                  refine CW.cond ((((kidsOf row id).length : Int) : Int) != 0) (by kernel_rfl) (by kernel_rfl) (fun c201 => ?_) (fun c201 => ?_)
                  ·
                    skip
                    have d202 := bne_true c201
                    refine CW.seq ?_
                    refine CW.region ?_
                    refine WL.q (.bool false) (by kernel_rfl) rfl (by kernel_rfl) (by kernel_rfl) ?_
                    refine WL.nil ?_
                    refine EX.then_code ?_
                    refine CW.ret ?_
                    refine EX.ret_block ?_
                    refine EX.ret_then ?_
                    refine EX.ret_then ?_
                    refine EX.ret_block ?_
                    refine EX.ret_then ?_
                    refine EX.ret1 (v := (.bool false)) rfl (by kernel_rfl) ?_
                    first | (exfalso; omega) | (exfalso; simp only [List.length_append, List.length_cons, List.length_nil, List.nil_append] at *; omega) | (exfalso; simp_all; done)
                  ·
                    skip
                    have d203 := bne_false c201
                    refine CW.skip ?_
                    refine EX.in_block ?_
                    refine EX.then_code ?_
                    refine CW.region ?_
                    refine WL.q (.int .i64 id) (by kernel_rfl) rfl (by kernel_rfl) (by kernel_rfl) ?_
                    refine WL.q (.int .i64 (id + 1)) (by kernel_rfl) rfl (by kernel_rfl) (q_int (x := IntKind.i64.wrap (id + 1)) (by kernel_rfl) (wrap_to (by omega) (by omega) (by omega))) ?_
                    refine WL.q (.int .i64 (id + 1)) (by kernel_rfl) rfl (by kernel_rfl) (by kernel_rfl) ?_
                    refine WL.nil ?_
                    exact EX.then_loop (id + 1) ⟨(by kernel_rfl), (by kernel_rfl), (by kernel_rfl), (by kernel_rfl), trivial⟩ ⟨h200, Mu152, (((((((((l152.trans l155).trans l176).trans l178).trans l190).trans l191).trans l193).trans l194).trans l196).trans l200), G200, A152, (by first | omega | (dsimp only [List.length_nil, List.length_append, List.length_cons]; omega)), (by first | omega | (dsimp only [List.length_nil, List.length_append, List.length_cons]; omega))⟩ (by first | omega | (dsimp only; omega))
                ·
                  skip
                  have d204 := not_false c197
                  have d205 := of_decide_eq_true d204
                  refine WL.know 213 (.bool false) (x := .bool (!(decide ((atF row id) ≥ 0)))) (by kernel_rfl) (congrArg Value.bool c197) ?_
                  refine WL.skip (by kernel_rfl) rfl (by kernel_rfl) ?_
                  refine WL.skip (by kernel_rfl) rfl (by kernel_rfl) ?_
                  refine WL.skip (by kernel_rfl) rfl (by kernel_rfl) ?_
                  refine WL.skip (by kernel_rfl) rfl (by kernel_rfl) ?_
                  refine WL.skip (by kernel_rfl) rfl (by kernel_rfl) ?_
                  refine WL.q (.bool false) (by kernel_rfl) rfl (by kernel_rfl) (by kernel_rfl) ?_
                  refine WL.q (.bool false) (by kernel_rfl) rfl (by kernel_rfl) (by kernel_rfl) ?_
                  refine WL.nil ?_
                  refine EX.then_code ?_
                  refine CW.cond_f (by kernel_rfl) (by kernel_rfl) ?_
                  refine CW.skip ?_
                  refine EX.in_block ?_
                  refine EX.then_code ?_
                  refine CW.region ?_
                  refine WL.q (.int .i64 id) (by kernel_rfl) rfl (by kernel_rfl) (by kernel_rfl) ?_
                  refine WL.q (.int .i64 (id + 1)) (by kernel_rfl) rfl (by kernel_rfl) (q_int (x := IntKind.i64.wrap (id + 1)) (by kernel_rfl) (wrap_to (by omega) (by omega) (by omega))) ?_
                  refine WL.q (.int .i64 (id + 1)) (by kernel_rfl) rfl (by kernel_rfl) (by kernel_rfl) ?_
                  refine WL.nil ?_
                  exact EX.then_loop (id + 1) ⟨(by kernel_rfl), (by kernel_rfl), (by kernel_rfl), (by kernel_rfl), trivial⟩ ⟨h196, Mu152, ((((((((l152.trans l155).trans l176).trans l178).trans l190).trans l191).trans l193).trans l194).trans l196), G196, A152, (by first | omega | (dsimp only [List.length_nil, List.length_append, List.length_cons]; omega)), (by first | omega | (dsimp only [List.length_nil, List.length_append, List.length_cons]; omega))⟩ (by first | omega | (dsimp only; omega))
              ·
                skip
                have d206 := of_decide_eq_false c187
                refine WL.know 189 (.bool false) (x := .bool (decide ((atF row id) ≥ 0))) (by kernel_rfl) (congrArg Value.bool c187) ?_
                refine WL.q (.bool true) (by kernel_rfl) rfl (by kernel_rfl) (by kernel_rfl) ?_
                refine WL.q (.bool true) (by kernel_rfl) rfl (by kernel_rfl) (by kernel_rfl) ?_
                refine WL.skip (by kernel_rfl) rfl (by kernel_rfl) ?_
                refine WL.skip (by kernel_rfl) rfl (by kernel_rfl) ?_
                refine WL.skip (by kernel_rfl) rfl (by kernel_rfl) ?_
                refine WL.skip (by kernel_rfl) rfl (by kernel_rfl) ?_
                refine WL.skip (by kernel_rfl) rfl (by kernel_rfl) ?_
                refine WL.skip (by kernel_rfl) rfl (by kernel_rfl) ?_
                refine WL.q (.bool true) (by kernel_rfl) rfl (by kernel_rfl) (by kernel_rfl) ?_
                refine WL.q (.bool true) (by kernel_rfl) rfl (by kernel_rfl) (by kernel_rfl) ?_
                refine WL.skip (by kernel_rfl) rfl (by kernel_rfl) ?_
                refine WL.skip (by kernel_rfl) rfl (by kernel_rfl) ?_
                refine WL.skip (by kernel_rfl) rfl (by kernel_rfl) ?_
                refine WL.skip (by kernel_rfl) rfl (by kernel_rfl) ?_
                refine WL.skip (by kernel_rfl) rfl (by kernel_rfl) ?_
                refine WL.skip (by kernel_rfl) rfl (by kernel_rfl) ?_
                refine WL.skip (by kernel_rfl) rfl (by kernel_rfl) ?_
                refine WL.skip (by kernel_rfl) rfl (by kernel_rfl) ?_
                refine WL.skip (by kernel_rfl) rfl (by kernel_rfl) ?_
                refine WL.q (.bool true) (by kernel_rfl) rfl (by kernel_rfl) (by kernel_rfl) ?_
                refine WL.q (.bool true) (by kernel_rfl) rfl (by kernel_rfl) (by kernel_rfl) ?_
                refine WL.skip (by kernel_rfl) rfl (by kernel_rfl) ?_
                refine WL.skip (by kernel_rfl) rfl (by kernel_rfl) ?_
                refine WL.skip (by kernel_rfl) rfl (by kernel_rfl) ?_
                refine WL.skip (by kernel_rfl) rfl (by kernel_rfl) ?_
                refine WL.skip (by kernel_rfl) rfl (by kernel_rfl) ?_
                refine WL.skip (by kernel_rfl) rfl (by kernel_rfl) ?_
                refine WL.skip (by kernel_rfl) rfl (by kernel_rfl) ?_
                refine WL.skip (by kernel_rfl) rfl (by kernel_rfl) ?_
                refine WL.skip (by kernel_rfl) rfl (by kernel_rfl) ?_
                refine WL.q (.bool true) (by kernel_rfl) rfl (by kernel_rfl) (by kernel_rfl) ?_
                refine WL.nil ?_
                refine EX.then_code ?_
                refine CW.cond_t (by kernel_rfl) (by kernel_rfl) ?_
                refine CW.seq ?_
                refine CW.region ?_
                refine WL.q (.bool false) (by kernel_rfl) rfl (by kernel_rfl) (by kernel_rfl) ?_
                refine WL.nil ?_
                refine EX.then_code ?_
                refine CW.ret ?_
                refine EX.ret_block ?_
                refine EX.ret_then ?_
                refine EX.ret_then ?_
                refine EX.ret_block ?_
                refine EX.ret_then ?_
                refine EX.ret1 (v := (.bool false)) rfl (by kernel_rfl) ?_
                first | (exfalso; omega) | (exfalso; simp only [List.length_append, List.length_cons, List.length_nil, List.nil_append] at *; omega) | (exfalso; simp_all; done)
        ·
          skip
          have hk0 : (kidsOf row id).length = 0 := by rw [not_or] at hok; rw [kidsOf_none hwf hok.1 (by omega)]; rfl
          have cp207 := pathT_spec G152 A152 (by omega) id
          rw [decide_eq_false (hok)] at cp207
          refine WL.call (by kernel_rfl) rfl (by kernel_rfl) (by kernel_rfl) cp207 (Ret.elim ?_)
          rintro w207 h207 _ l207 G207 ⟨ap207, rfl, rp207⟩
          refine WL.q (.tuple #[(.slice ap207 ((pathN row (row.length + 1) id).length) ((pathN row (row.length + 1) id).length)), (.bool false)]) (by kernel_rfl) rfl (by kernel_rfl) (by kernel_rfl) ?_
          refine WL.q (.slice ap207 ((pathN row (row.length + 1) id).length) ((pathN row (row.length + 1) id).length)) (by kernel_rfl) rfl (by kernel_rfl) (by kernel_rfl) ?_
          refine WL.q (.bool false) (by kernel_rfl) rfl (by kernel_rfl) (by kernel_rfl) ?_
          refine WL.q (.slice ap207 ((pathN row (row.length + 1) id).length) ((pathN row (row.length + 1) id).length)) (by kernel_rfl) rfl (by kernel_rfl) (by kernel_rfl) ?_
          refine WL.q (.bool false) (by kernel_rfl) rfl (by kernel_rfl) (by kernel_rfl) ?_
          refine WL.nil ?_
          refine EX.then_code ?_
          refine CW.seq ?_
          refine CW.region ?_
          refine WL.q (.int .i64 id) (by kernel_rfl) rfl (by kernel_rfl) (by kernel_rfl) ?_
          refine WL.q (.bool ((id : Int) == 0)) (by kernel_rfl) rfl (by kernel_rfl) (by kernel_rfl) ?_
          refine WL.q (.bool ((id : Int) == 0)) (by kernel_rfl) rfl (by kernel_rfl) (by kernel_rfl) ?_
          rcases bool_cases ((id : Int) == 0) with c208 | c208
          ·
            skip
            have d209 := eq_of_beq c208
            refine WL.know 161 (.bool true) (x := .bool ((id : Int) == 0)) (by kernel_rfl) (congrArg Value.bool c208) ?_
            refine WL.skip (by kernel_rfl) rfl (by kernel_rfl) ?_
            refine WL.skip (by kernel_rfl) rfl (by kernel_rfl) ?_
            refine WL.skip (by kernel_rfl) rfl (by kernel_rfl) ?_
            refine WL.skip (by kernel_rfl) rfl (by kernel_rfl) ?_
            refine WL.q (.bool true) (by kernel_rfl) rfl (by kernel_rfl) (by kernel_rfl) ?_
            refine WL.q (.bool true) (by kernel_rfl) rfl (by kernel_rfl) (by kernel_rfl) ?_
            refine WL.nil ?_
            refine EX.then_code ?_
            refine CW.seq ?_
            refine CW.region ?_
            refine WL.q (.slice none 0 0) (by kernel_rfl) rfl (by kernel_rfl) (by kernel_rfl) ?_
            refine WL.nil ?_
            refine EX.then_code ?_
            refine CW.seq ?_
            refine CW.seq ?_
            refine CW.region ?_
            refine WL.q (.int .i64 0) (by kernel_rfl) rfl (by kernel_rfl) (by kernel_rfl) ?_
            refine WL.nil ?_
            refine EX.then_code ?_
            refine CW.block ?_
            refine CW.loop (β := Nat × Option Addr × Nat) (fun x_ => [(3, (.pointer (some ⟨p5, 0, none⟩))), (4, (.slice ar row.length cr)), (5, (.int .i64 (last + 1))), (16, (.int .i64 id)), (17, (.slice ap207 ((pathN row (row.length + 1) id).length) ((pathN row (row.length + 1) id).length))), (18, (.bool false)), (19, (.bool true)), (20, (.slice x_.2.1 ((kidsK row id x_.1).length) x_.2.2)), (21, (.int .i64 (x_.1 : Int)))]) (fun x_ w_ => ∃ h_ Mg_, (PH.le h207 h_) ∧ (Wld K w_ h_ Mg_) ∧ (Own 3 intE Mu152 Mg_ x_.2.1 x_.2.2 (kidsK row id x_.1)) ∧ (x_.1 ≤ row.length)) (fun x_ => row.length - x_.1) ⟨0, none, 0⟩ ⟨(by kernel_rfl), (by kernel_rfl), (by kernel_rfl), (by kernel_rfl), (by kernel_rfl), (by kernel_rfl), (by kernel_rfl), (by kernel_rfl), (lk_int (x := 0) (by kernel_rfl) (by first | omega | (dsimp only; done) | (dsimp only; omega))), trivial⟩ ⟨h207, Mu152, (PH.le_refl _), G207, (Own.nil 3 intE Mu152), (by first | omega | (dsimp only [List.length_nil, List.length_append, List.length_cons]; omega))⟩ ?_
            rintro ⟨j, ag, cg⟩ w210 ⟨h210, Mg_210, l210, G210, og210, hj⟩
            try dsimp only at *
            have hgl := kidsK_len row id j
            refine CW.seq ?_
            refine CW.seq ?_
            refine CW.region ?_
            refine WL.q (.int .i64 (j : Int)) (by kernel_rfl) rfl (by kernel_rfl) (by kernel_rfl) ?_
            refine WL.q (.slice ar row.length cr) (by kernel_rfl) rfl (by kernel_rfl) (by kernel_rfl) ?_
            refine WL.q (.int .i64 (row.length : Int)) (by kernel_rfl) rfl (by kernel_rfl) (by kernel_rfl) ?_
            refine WL.q (.bool (decide ((j : Int) < (row.length : Int)))) (by kernel_rfl) rfl (by kernel_rfl) (by kernel_rfl) ?_
            refine WL.nil ?_
            refine EX.then_code ?_
            refine CW.cond (decide ((j : Int) < (row.length : Int))) (by kernel_rfl) (by kernel_rfl) (fun c211 => ?_) (fun c211 => ?_)
            ·
              skip
              have d212 := of_decide_eq_true c211
              refine CW.skip ?_
              refine EX.then_code ?_
              refine CW.seq ?_
              refine CW.block ?_
              refine CW.seq ?_
              refine CW.region ?_
              refine WL.q (.slice ar row.length cr) (by kernel_rfl) rfl (by kernel_rfl) (by kernel_rfl) ?_
              refine WL.q (.int .i64 (j : Int)) (by kernel_rfl) rfl (by kernel_rfl) (by kernel_rfl) ?_
              refine WL.q (eptr ar (j * tokE.sz)) (by kernel_rfl) rfl (by kernel_rfl) (q_indexAddr (i := j) (E := tokE) (xs := row) (e := 34) (c := cr) (k := .i64) (m := row.length) rfl rfl (by kernel_rfl) (by kernel_rfl) (by kernel_rfl) (Hr.mono (((l152.trans l207).trans l210).trans G210.imm)) (by omega)) ?_
              refine WL.q (eptr ar (j * tokE.sz + 1)) (by kernel_rfl) rfl (by kernel_rfl) (q_fieldAddr_e (i := j) (k := j * tokE.sz) (off := 1) rfl (by kernel_rfl) (by kernel_rfl) (Hr.mono (((l152.trans l207).trans l210).trans G210.imm)) (by omega)) ?_
              refine WL.q (.int .i64 (((row.getD j tokE.dflt)).parent)) (by kernel_rfl) rfl (by kernel_rfl) (q_load_e (i := j) (k := 1) (E := tokE) rfl (by kernel_rfl) (by kernel_rfl) (Hr.mono (((l152.trans l207).trans l210).trans G210.imm)) (by omega) (by decide) (by kernel_rfl)) ?_
              refine WL.q (.int .i64 id) (by kernel_rfl) rfl (by kernel_rfl) (by kernel_rfl) ?_
              refine WL.q (.bool ((((row.getD j tokE.dflt)).parent : Int) == id)) (by kernel_rfl) rfl (by kernel_rfl) (by kernel_rfl) ?_
              refine WL.nil ?_
              refine EX.then_code ?_
              refine CW.cond ((((row.getD j tokE.dflt)).parent : Int) == id) (by kernel_rfl) (by kernel_rfl) (fun c213 => ?_) (fun c213 => ?_)
              ·
                skip
                have d214 := eq_of_beq c213
                refine CW.region ?_
                refine WL.q (.slice ag ((kidsK row id j).length) cg) (by kernel_rfl) rfl (by kernel_rfl) (by kernel_rfl) ?_
                refine WL.q (.slice ar row.length cr) (by kernel_rfl) rfl (by kernel_rfl) (by kernel_rfl) ?_
                refine WL.q (.int .i64 (j : Int)) (by kernel_rfl) rfl (by kernel_rfl) (by kernel_rfl) ?_
                refine WL.q (eptr ar (j * tokE.sz)) (by kernel_rfl) rfl (by kernel_rfl) (q_indexAddr (i := j) (E := tokE) (xs := row) (e := 34) (c := cr) (k := .i64) (m := row.length) rfl rfl (by kernel_rfl) (by kernel_rfl) (by kernel_rfl) (Hr.mono (((l152.trans l207).trans l210).trans G210.imm)) (by omega)) ?_
                refine WL.q (eptr ar (j * tokE.sz + 0)) (by kernel_rfl) rfl (by kernel_rfl) (q_fieldAddr_e (i := j) (k := j * tokE.sz) (off := 0) rfl (by kernel_rfl) (by kernel_rfl) (Hr.mono (((l152.trans l207).trans l210).trans G210.imm)) (by omega)) ?_
                refine WL.q (.int .i64 (((row.getD j tokE.dflt)).id)) (by kernel_rfl) rfl (by kernel_rfl) (q_load_e (i := j) (k := 0) (E := tokE) rfl (by kernel_rfl) (by kernel_rfl) (Hr.mono (((l152.trans l207).trans l210).trans G210.imm)) (by omega) (by decide) (by kernel_rfl)) ?_
                refine WL.new (ob := (.cells #[(.int .i64 (((row.getD j tokE.dflt)).id))] 3)) G210 (by kernel_rfl) rfl (by kernel_rfl) (fun b_ => .slice (some ⟨b_, 0, none⟩) 1 1) (fun u_ => by kernel_rfl) ?_
                intro b215 w215 n215 i215 G215
                refine WL.append (e := 3) (bytes := 8) (cap := cg) (c2 := 1) (M0 := Mu152) (xs := (kidsK row id j)) (ys := ([((row.getD j tokE.dflt)).id])) G215 (PH.le_set _ n215) og210 (PH.le_refl _) (RS.blk (E := intE) (xs := [((row.getD j tokE.dflt)).id]) (G215.own _ _ (PH.set_same _ _ _)) (by kernel_rfl)) rfl (by kernel_rfl) (by kernel_rfl) rfl (by kernel_rfl) (by kernel_rfl) (by kernel_rfl) (by first | (simp only [maxLen, List.length_append, List.length_cons, List.length_nil]; omega) | (simp only [maxLen]; omega)) (by first | omega | (simp only [List.length_append, List.length_cons, List.length_nil]; omega)) ?_
                intro a216 k216 w216 M216 G216 o216 z216
                refine WL.q (.slice a216 (((kidsK row id j) ++ ([((row.getD j tokE.dflt)).id])).length) k216) (by kernel_rfl) rfl (by kernel_rfl) (by kernel_rfl) ?_
                refine WL.nil ?_
                refine EX.in_block ?_
                refine EX.then_code ?_
                refine CW.region ?_
                refine WL.q (.int .i64 (j : Int)) (by kernel_rfl) rfl (by kernel_rfl) (by kernel_rfl) ?_
                refine WL.q (.int .i64 ((j + 1 : Nat) : Int)) (by kernel_rfl) rfl (by kernel_rfl) (q_int (x := IntKind.i64.wrap ((j : Int) + 1)) (by kernel_rfl) (wrap_to (by omega) (by omega) (by omega))) ?_
                refine WL.q (.int .i64 ((j + 1 : Nat) : Int)) (by kernel_rfl) rfl (by kernel_rfl) (by kernel_rfl) ?_
                refine WL.nil ?_
                have q1 := kidsK_yes row id (k := j) (by omega) (by assumption)
                exact EX.then_loop ⟨j + 1, a216, k216⟩ ⟨(by kernel_rfl), (by kernel_rfl), (by kernel_rfl), (by kernel_rfl), (by kernel_rfl), (by kernel_rfl), (by kernel_rfl), (lk_val (x := (.slice a216 (((kidsK row id j) ++ ([((row.getD j tokE.dflt)).id])).length) k216)) (by kernel_rfl) (by rw [q1]; first | done | rfl)), (lk_int (x := ((j + 1 : Nat) : Int)) (by kernel_rfl) (by first | omega | (dsimp only; done) | (dsimp only; omega))), trivial⟩ ⟨h210, M216, l210, G216, (q1.symm ▸ o216), (by first | omega | (dsimp only [List.length_nil, List.length_append, List.length_cons]; omega))⟩ (by first | omega | (dsimp only; omega))
              ·
                skip
                have d217 := ne_of_beq_false c213
                refine CW.skip ?_
                refine EX.in_block ?_
                refine EX.then_code ?_
                refine CW.region ?_
                refine WL.q (.int .i64 (j : Int)) (by kernel_rfl) rfl (by kernel_rfl) (by kernel_rfl) ?_
                refine WL.q (.int .i64 ((j + 1 : Nat) : Int)) (by kernel_rfl) rfl (by kernel_rfl) (q_int (x := IntKind.i64.wrap ((j : Int) + 1)) (by kernel_rfl) (wrap_to (by omega) (by omega) (by omega))) ?_
                refine WL.q (.int .i64 ((j + 1 : Nat) : Int)) (by kernel_rfl) rfl (by kernel_rfl) (by kernel_rfl) ?_
                refine WL.nil ?_
                have q1 := kidsK_no row id (k := j) (by omega) (by assumption)
                exact EX.then_loop ⟨j + 1, ag, cg⟩ ⟨(by kernel_rfl), (by kernel_rfl), (by kernel_rfl), (by kernel_rfl), (by kernel_rfl), (by kernel_rfl), (by kernel_rfl), (lk_val (x := (.slice ag ((kidsK row id j).length) cg)) (by kernel_rfl) (by rw [q1]; first | done | rfl)), (lk_int (x := ((j + 1 : Nat) : Int)) (by kernel_rfl) (by first | omega | (dsimp only; done) | (dsimp only; omega))), trivial⟩ ⟨h210, Mg_210, l210, G210, (q1.symm ▸ og210), (by first | omega | (dsimp only [List.length_nil, List.length_append, List.length_cons]; omega))⟩ (by first | omega | (dsimp only; omega))
            ·
              skip
              have d218 := of_decide_eq_false c211
              refine CW.exit ?_
              refine EX.exit_then ?_
              refine EX.exit_then ?_
              refine EX.exit_here ?_
              refine EX.then_code ?_
              refine CW.seq ?_
              refine CW.region ?_
              refine WL.q (.bool false) (by kernel_rfl) rfl (by kernel_rfl) (by kernel_rfl) ?_
              refine WL.q (.bool true) (by kernel_rfl) rfl (by kernel_rfl) (by kernel_rfl) ?_
              refine WL.q (.bool true) (by kernel_rfl) rfl (by kernel_rfl) (by kernel_rfl) ?_
              refine WL.q (.bool true) (by kernel_rfl) rfl (by kernel_rfl) (by kernel_rfl) ?_
              refine WL.skip (by kernel_rfl) rfl (by kernel_rfl) ?_
              refine WL.skip (by kernel_rfl) rfl (by kernel_rfl) ?_
              refine WL.skip (by kernel_rfl) rfl (by kernel_rfl) ?_
              refine WL.skip (by kernel_rfl) rfl (by kernel_rfl) ?_
              refine WL.skip (by kernel_rfl) rfl (by kernel_rfl) ?_
              refine WL.skip (by kernel_rfl) rfl (by kernel_rfl) ?_
              refine WL.q (.bool true) (by kernel_rfl) rfl (by kernel_rfl) (by kernel_rfl) ?_
              refine WL.q (.bool true) (by kernel_rfl) rfl (by kernel_rfl) (by kernel_rfl) ?_
              refine WL.skip (by kernel_rfl) rfl (by kernel_rfl) ?_
              refine WL.skip (by kernel_rfl) rfl (by kernel_rfl) ?_
              refine WL.skip (by kernel_rfl) rfl (by kernel_rfl) ?_
              refine WL.skip (by kernel_rfl) rfl (by kernel_rfl) ?_
              refine WL.skip (by kernel_rfl) rfl (by kernel_rfl) ?_
              refine WL.skip (by kernel_rfl) rfl (by kernel_rfl) ?_
              refine WL.skip (by kernel_rfl) rfl (by kernel_rfl) ?_
              refine WL.skip (by kernel_rfl) rfl (by kernel_rfl) ?_
              refine WL.skip (by kernel_rfl) rfl (by kernel_rfl) ?_
              refine WL.q (.bool true) (by kernel_rfl) rfl (by kernel_rfl) (by kernel_rfl) ?_
              refine WL.q (.bool true) (by kernel_rfl) rfl (by kernel_rfl) (by kernel_rfl) ?_
              refine WL.skip (by kernel_rfl) rfl (by kernel_rfl) ?_
              refine WL.skip (by kernel_rfl) rfl (by kernel_rfl) ?_
              refine WL.skip (by kernel_rfl) rfl (by kernel_rfl) ?_
              refine WL.skip (by kernel_rfl) rfl (by kernel_rfl) ?_
              refine WL.skip (by kernel_rfl) rfl (by kernel_rfl) ?_
              refine WL.skip (by kernel_rfl) rfl (by kernel_rfl) ?_
              refine WL.skip (by kernel_rfl) rfl (by kernel_rfl) ?_
              refine WL.skip (by kernel_rfl) rfl (by kernel_rfl) ?_
              refine WL.skip (by kernel_rfl) rfl (by kernel_rfl) ?_
              refine WL.q (.bool true) (by kernel_rfl) rfl (by kernel_rfl) (by kernel_rfl) ?_
              refine WL.nil ?_
              refine EX.then_code ?_
              refine CW.cond_t (by kernel_rfl) (by kernel_rfl) ?_
              refine CW.seq ?_
              refine CW.region ?_
              refine WL.q (.bool false) (by kernel_rfl) rfl (by kernel_rfl) (by kernel_rfl) ?_
              refine WL.nil ?_
              refine EX.then_code ?_
              refine CW.ret ?_
              refine EX.ret_block ?_
              refine EX.ret_then ?_
              refine EX.ret_then ?_
              refine EX.ret_block ?_
              refine EX.ret_then ?_
              refine EX.ret1 (v := (.bool false)) rfl (by kernel_rfl) ?_
              first | (exfalso; omega) | (exfalso; simp only [List.length_append, List.length_cons, List.length_nil, List.nil_append] at *; omega) | (exfalso; simp_all; done)
          ·
            skip
            have d219 := ne_of_beq_false c208
            refine WL.know 161 (.bool false) (x := .bool ((id : Int) == 0)) (by kernel_rfl) (congrArg Value.bool c208) ?_
            refine WL.q (.slice ar row.length cr) (by kernel_rfl) rfl (by kernel_rfl) (by kernel_rfl) ?_
            refine WL.q (.int .i64 id) (by kernel_rfl) rfl (by kernel_rfl) (by kernel_rfl) ?_
            refine WL.call (by kernel_rfl) rfl (by kernel_rfl) (by kernel_rfl) (at_spec (l := row) (cl := cr) G207 id (Hr.mono (l152.trans l207)) (by omega)) (Ret.elim ?_)
            rintro w220 h220 _ l220 G220 rfl
            have e221 := atF_bd row id
            refine WL.q (.bool (decide ((atF row id) ≥ 0))) (by kernel_rfl) rfl (by kernel_rfl) (by kernel_rfl) ?_
            refine WL.q (.bool (decide ((atF row id) ≥ 0))) (by kernel_rfl) rfl (by kernel_rfl) (by kernel_rfl) ?_
            refine WL.q (.bool (decide ((atF row id) ≥ 0))) (by kernel_rfl) rfl (by kernel_rfl) (by kernel_rfl) ?_
            refine WL.nil ?_
            refine EX.then_code ?_
            refine CW.seq ?_
            refine CW.region ?_
            refine WL.q (.slice none 0 0) (by kernel_rfl) rfl (by kernel_rfl) (by kernel_rfl) ?_
            refine WL.nil ?_
            refine EX.then_code ?_
            refine CW.seq ?_
            refine CW.seq ?_
            refine CW.region ?_
            refine WL.q (.int .i64 0) (by kernel_rfl) rfl (by kernel_rfl) (by kernel_rfl) ?_
            refine WL.nil ?_
            refine EX.then_code ?_
            refine CW.block ?_
            refine CW.loop (β := Nat × Option Addr × Nat) (fun x_ => [(3, (.pointer (some ⟨p5, 0, none⟩))), (4, (.slice ar row.length cr)), (5, (.int .i64 (last + 1))), (16, (.int .i64 id)), (17, (.slice ap207 ((pathN row (row.length + 1) id).length) ((pathN row (row.length + 1) id).length))), (18, (.bool false)), (19, (.bool (decide ((atF row id) ≥ 0)))), (20, (.slice x_.2.1 ((kidsK row id x_.1).length) x_.2.2)), (21, (.int .i64 (x_.1 : Int)))]) (fun x_ w_ => ∃ h_ Mg_, (PH.le h220 h_) ∧ (Wld K w_ h_ Mg_) ∧ (Own 3 intE Mu152 Mg_ x_.2.1 x_.2.2 (kidsK row id x_.1)) ∧ (x_.1 ≤ row.length)) (fun x_ => row.length - x_.1) ⟨0, none, 0⟩ ⟨(by kernel_rfl), (by kernel_rfl), (by kernel_rfl), (by kernel_rfl), (by kernel_rfl), (by kernel_rfl), (by kernel_rfl), (by kernel_rfl), (lk_int (x := 0) (by kernel_rfl) (by first | omega | (dsimp only; done) | (dsimp only; omega))), trivial⟩ ⟨h220, Mu152, (PH.le_refl _), G220, (Own.nil 3 intE Mu152), (by first | omega | (dsimp only [List.length_nil, List.length_append, List.length_cons]; omega))⟩ ?_
            rintro ⟨j, ag, cg⟩ w222 ⟨h222, Mg_222, l222, G222, og222, hj⟩
            try dsimp only at *
            have hgl := kidsK_len row id j
            refine CW.seq ?_
            refine CW.seq ?_
            refine CW.region ?_
            refine WL.q (.int .i64 (j : Int)) (by kernel_rfl) rfl (by kernel_rfl) (by kernel_rfl) ?_
            refine WL.q (.slice ar row.length cr) (by kernel_rfl) rfl (by kernel_rfl) (by kernel_rfl) ?_
            refine WL.q (.int .i64 (row.length : Int)) (by kernel_rfl) rfl (by kernel_rfl) (by kernel_rfl) ?_
            refine WL.q (.bool (decide ((j : Int) < (row.length : Int)))) (by kernel_rfl) rfl (by kernel_rfl) (by kernel_rfl) ?_
            refine WL.nil ?_
            refine EX.then_code ?_
            refine CW.cond (decide ((j : Int) < (row.length : Int))) (by kernel_rfl) (by kernel_rfl) (fun c223 => ?_) (fun c223 => ?_)
            ·
              skip
              have d224 := of_decide_eq_true c223
              refine CW.skip ?_
              refine EX.then_code ?_
              refine CW.seq ?_
              refine CW.block ?_
              refine CW.seq ?_
              refine CW.region ?_
              refine WL.q (.slice ar row.length cr) (by kernel_rfl) rfl (by kernel_rfl) (by kernel_rfl) ?_
              refine WL.q (.int .i64 (j : Int)) (by kernel_rfl) rfl (by kernel_rfl) (by kernel_rfl) ?_
              refine WL.q (eptr ar (j * tokE.sz)) (by kernel_rfl) rfl (by kernel_rfl) (q_indexAddr (i := j) (E := tokE) (xs := row) (e := 34) (c := cr) (k := .i64) (m := row.length) rfl rfl (by kernel_rfl) (by kernel_rfl) (by kernel_rfl) (Hr.mono ((((l152.trans l207).trans l220).trans l222).trans G222.imm)) (by omega)) ?_
              refine WL.q (eptr ar (j * tokE.sz + 1)) (by kernel_rfl) rfl (by kernel_rfl) (q_fieldAddr_e (i := j) (k := j * tokE.sz) (off := 1) rfl (by kernel_rfl) (by kernel_rfl) (Hr.mono ((((l152.trans l207).trans l220).trans l222).trans G222.imm)) (by omega)) ?_
              refine WL.q (.int .i64 (((row.getD j tokE.dflt)).parent)) (by kernel_rfl) rfl (by kernel_rfl) (q_load_e (i := j) (k := 1) (E := tokE) rfl (by kernel_rfl) (by kernel_rfl) (Hr.mono ((((l152.trans l207).trans l220).trans l222).trans G222.imm)) (by omega) (by decide) (by kernel_rfl)) ?_
              refine WL.q (.int .i64 id) (by kernel_rfl) rfl (by kernel_rfl) (by kernel_rfl) ?_
              refine WL.q (.bool ((((row.getD j tokE.dflt)).parent : Int) == id)) (by kernel_rfl) rfl (by kernel_rfl) (by kernel_rfl) ?_
              refine WL.nil ?_
              refine EX.then_code ?_
              refine CW.cond ((((row.getD j tokE.dflt)).parent : Int) == id) (by kernel_rfl) (by kernel_rfl) (fun c225 => ?_) (fun c225 => ?_)
              ·
                skip
                have d226 := eq_of_beq c225
                refine CW.region ?_
                refine WL.q (.slice ag ((kidsK row id j).length) cg) (by kernel_rfl) rfl (by kernel_rfl) (by kernel_rfl) ?_
                refine WL.q (.slice ar row.length cr) (by kernel_rfl) rfl (by kernel_rfl) (by kernel_rfl) ?_
                refine WL.q (.int .i64 (j : Int)) (by kernel_rfl) rfl (by kernel_rfl) (by kernel_rfl) ?_
                refine WL.q (eptr ar (j * tokE.sz)) (by kernel_rfl) rfl (by kernel_rfl) (q_indexAddr (i := j) (E := tokE) (xs := row) (e := 34) (c := cr) (k := .i64) (m := row.length) rfl rfl (by kernel_rfl) (by kernel_rfl) (by kernel_rfl) (Hr.mono ((((l152.trans l207).trans l220).trans l222).trans G222.imm)) (by omega)) ?_
                refine WL.q (eptr ar (j * tokE.sz + 0)) (by kernel_rfl) rfl (by kernel_rfl) (q_fieldAddr_e (i := j) (k := j * tokE.sz) (off := 0) rfl (by kernel_rfl) (by kernel_rfl) (Hr.mono ((((l152.trans l207).trans l220).trans l222).trans G222.imm)) (by omega)) ?_
                refine WL.q (.int .i64 (((row.getD j tokE.dflt)).id)) (by kernel_rfl) rfl (by kernel_rfl) (q_load_e (i := j) (k := 0) (E := tokE) rfl (by kernel_rfl) (by kernel_rfl) (Hr.mono ((((l152.trans l207).trans l220).trans l222).trans G222.imm)) (by omega) (by decide) (by kernel_rfl)) ?_
                refine WL.new (ob := (.cells #[(.int .i64 (((row.getD j tokE.dflt)).id))] 3)) G222 (by kernel_rfl) rfl (by kernel_rfl) (fun b_ => .slice (some ⟨b_, 0, none⟩) 1 1) (fun u_ => by kernel_rfl) ?_
                intro b227 w227 n227 i227 G227
                refine WL.append (e := 3) (bytes := 8) (cap := cg) (c2 := 1) (M0 := Mu152) (xs := (kidsK row id j)) (ys := ([((row.getD j tokE.dflt)).id])) G227 (PH.le_set _ n227) og222 (PH.le_refl _) (RS.blk (E := intE) (xs := [((row.getD j tokE.dflt)).id]) (G227.own _ _ (PH.set_same _ _ _)) (by kernel_rfl)) rfl (by kernel_rfl) (by kernel_rfl) rfl (by kernel_rfl) (by kernel_rfl) (by kernel_rfl) (by first | (simp only [maxLen, List.length_append, List.length_cons, List.length_nil]; omega) | (simp only [maxLen]; omega)) (by first | omega | (simp only [List.length_append, List.length_cons, List.length_nil]; omega)) ?_
                intro a228 k228 w228 M228 G228 o228 z228
                refine WL.q (.slice a228 (((kidsK row id j) ++ ([((row.getD j tokE.dflt)).id])).length) k228) (by kernel_rfl) rfl (by kernel_rfl) (by kernel_rfl) ?_
                refine WL.nil ?_
                refine EX.in_block ?_
                refine EX.then_code ?_
                refine CW.region ?_
                refine WL.q (.int .i64 (j : Int)) (by kernel_rfl) rfl (by kernel_rfl) (by kernel_rfl) ?_
                refine WL.q (.int .i64 ((j + 1 : Nat) : Int)) (by kernel_rfl) rfl (by kernel_rfl) (q_int (x := IntKind.i64.wrap ((j : Int) + 1)) (by kernel_rfl) (wrap_to (by omega) (by omega) (by omega))) ?_
                refine WL.q (.int .i64 ((j + 1 : Nat) : Int)) (by kernel_rfl) rfl (by kernel_rfl) (by kernel_rfl) ?_
                refine WL.nil ?_
                have q1 := kidsK_yes row id (k := j) (by omega) (by assumption)
                exact EX.then_loop ⟨j + 1, a228, k228⟩ ⟨(by kernel_rfl), (by kernel_rfl), (by kernel_rfl), (by kernel_rfl), (by kernel_rfl), (by kernel_rfl), (by kernel_rfl), (lk_val (x := (.slice a228 (((kidsK row id j) ++ ([((row.getD j tokE.dflt)).id])).length) k228)) (by kernel_rfl) (by rw [q1]; first | done | rfl)), (lk_int (x := ((j + 1 : Nat) : Int)) (by kernel_rfl) (by first | omega | (dsimp only; done) | (dsimp only; omega))), trivial⟩ ⟨h222, M228, l222, G228, (q1.symm ▸ o228), (by first | omega | (dsimp only [List.length_nil, List.length_append, List.length_cons]; omega))⟩ (by first | omega | (dsimp only; omega))
              ·
                skip
                have d229 := ne_of_beq_false c225
                refine CW.skip ?_
                refine EX.in_block ?_
                refine EX.then_code ?_
                refine CW.region ?_
                refine WL.q (.int .i64 (j : Int)) (by kernel_rfl) rfl (by kernel_rfl) (by kernel_rfl) ?_
                refine WL.q (.int .i64 ((j + 1 : Nat) : Int)) (by kernel_rfl) rfl (by kernel_rfl) (q_int (x := IntKind.i64.wrap ((j : Int) + 1)) (by kernel_rfl) (wrap_to (by omega) (by omega) (by omega))) ?_
                refine WL.q (.int .i64 ((j + 1 : Nat) : Int)) (by kernel_rfl) rfl (by kernel_rfl) (by kernel_rfl) ?_
                refine WL.nil ?_
                have q1 := kidsK_no row id (k := j) (by omega) (by assumption)
                exact EX.then_loop ⟨j + 1, ag, cg⟩ ⟨(by kernel_rfl), (by kernel_rfl), (by kernel_rfl), (by kernel_rfl), (by kernel_rfl), (by kernel_rfl), (by kernel_rfl), (lk_val (x := (.slice ag ((kidsK row id j).length) cg)) (by kernel_rfl) (by rw [q1]; first | done | rfl)), (lk_int (x := ((j + 1 : Nat) : Int)) (by kernel_rfl) (by first | omega | (dsimp only; done) | (dsimp only; omega))), trivial⟩ ⟨h222, Mg_222, l222, G222, (q1.symm ▸ og222), (by first | omega | (dsimp only [List.length_nil, List.length_append, List.length_cons]; omega))⟩ (by first | omega | (dsimp only; omega))
            ·
              skip
              have d230 := of_decide_eq_false c223
              refine CW.exit ?_
              refine EX.exit_then ?_
              refine EX.exit_then ?_
              refine EX.exit_here ?_
              refine EX.then_code ?_
              refine CW.seq ?_
              refine CW.region ?_
              refine WL.q (.bool false) (by kernel_rfl) rfl (by kernel_rfl) (by kernel_rfl) ?_
              refine WL.q (.bool (decide ((atF row id) ≥ 0))) (by kernel_rfl) rfl (by kernel_rfl) (by kernel_rfl) ?_
              rcases bool_cases (decide ((atF row id) ≥ 0)) with c231 | c231
              ·
                skip
                have d232 := of_decide_eq_true c231
                refine WL.know 189 (.bool true) (x := .bool (decide ((atF row id) ≥ 0))) (by kernel_rfl) (congrArg Value.bool c231) ?_
                refine WL.q (.bool true) (by kernel_rfl) rfl (by kernel_rfl) (by kernel_rfl) ?_
                refine WL.q (.bool true) (by kernel_rfl) rfl (by kernel_rfl) (by kernel_rfl) ?_
                refine WL.skip (by kernel_rfl) rfl (by kernel_rfl) ?_
                refine WL.skip (by kernel_rfl) rfl (by kernel_rfl) ?_
                refine WL.skip (by kernel_rfl) rfl (by kernel_rfl) ?_
                refine WL.skip (by kernel_rfl) rfl (by kernel_rfl) ?_
                refine WL.skip (by kernel_rfl) rfl (by kernel_rfl) ?_
                refine WL.skip (by kernel_rfl) rfl (by kernel_rfl) ?_
                refine WL.q (.bool true) (by kernel_rfl) rfl (by kernel_rfl) (by kernel_rfl) ?_
                refine WL.q (.bool true) (by kernel_rfl) rfl (by kernel_rfl) (by kernel_rfl) ?_
                refine WL.skip (by kernel_rfl) rfl (by kernel_rfl) ?_
                refine WL.skip (by kernel_rfl) rfl (by kernel_rfl) ?_
                refine WL.skip (by kernel_rfl) rfl (by kernel_rfl) ?_
                refine WL.skip (by kernel_rfl) rfl (by kernel_rfl) ?_
                refine WL.skip (by kernel_rfl) rfl (by kernel_rfl) ?_
                refine WL.skip (by kernel_rfl) rfl (by kernel_rfl) ?_
                refine WL.skip (by kernel_rfl) rfl (by kernel_rfl) ?_
                refine WL.skip (by kernel_rfl) rfl (by kernel_rfl) ?_
                refine WL.skip (by kernel_rfl) rfl (by kernel_rfl) ?_
                refine WL.q (.bool true) (by kernel_rfl) rfl (by kernel_rfl) (by kernel_rfl) ?_
                refine WL.q (.bool true) (by kernel_rfl) rfl (by kernel_rfl) (by kernel_rfl) ?_
                refine WL.skip (by kernel_rfl) rfl (by kernel_rfl) ?_
                refine WL.skip (by kernel_rfl) rfl (by kernel_rfl) ?_
                refine WL.skip (by kernel_rfl) rfl (by kernel_rfl) ?_
                refine WL.skip (by kernel_rfl) rfl (by kernel_rfl) ?_
                refine WL.skip (by kernel_rfl) rfl (by kernel_rfl) ?_
                refine WL.skip (by kernel_rfl) rfl (by kernel_rfl) ?_
                refine WL.skip (by kernel_rfl) rfl (by kernel_rfl) ?_
                refine WL.skip (by kernel_rfl) rfl (by kernel_rfl) ?_
                refine WL.skip (by kernel_rfl) rfl (by kernel_rfl) ?_
                refine WL.q (.bool true) (by kernel_rfl) rfl (by kernel_rfl) (by kernel_rfl) ?_
                refine WL.nil ?_
                refine EX.then_code ?_
                refine CW.cond_t (by kernel_rfl) (by kernel_rfl) ?_
                refine CW.seq ?_
                refine CW.region ?_
                refine WL.q (.bool false) (by kernel_rfl) rfl (by kernel_rfl) (by kernel_rfl) ?_
                refine WL.nil ?_
                refine EX.then_code ?_
                refine CW.ret ?_
                refine EX.ret_block ?_
                refine EX.ret_then ?_
                refine EX.ret_then ?_
                refine EX.ret_block ?_
                refine EX.ret_then ?_
                refine EX.ret1 (v := (.bool false)) rfl (by kernel_rfl) ?_
                first | (exfalso; omega) | (exfalso; simp only [List.length_append, List.length_cons, List.length_nil, List.nil_append] at *; omega) | (exfalso; simp_all; done)
              ·
                skip
                have d233 := of_decide_eq_false c231
                refine WL.know 189 (.bool false) (x := .bool (decide ((atF row id) ≥ 0))) (by kernel_rfl) (congrArg Value.bool c231) ?_
                refine WL.q (.bool false) (by kernel_rfl) rfl (by kernel_rfl) (by kernel_rfl) ?_
                refine WL.q (.bool false) (by kernel_rfl) rfl (by kernel_rfl) (by kernel_rfl) ?_
                refine WL.q (.slice ap207 ((pathN row (row.length + 1) id).length) ((pathN row (row.length + 1) id).length)) (by kernel_rfl) rfl (by kernel_rfl) (by kernel_rfl) ?_
                refine WL.q (.slice ar row.length cr) (by kernel_rfl) rfl (by kernel_rfl) (by kernel_rfl) ?_
                refine WL.q (.int .i64 id) (by kernel_rfl) rfl (by kernel_rfl) (by kernel_rfl) ?_
                refine WL.call (by kernel_rfl) rfl (by kernel_rfl) (by kernel_rfl) (path_spec (l := row) (cl := cr) G222 id (Hr.mono (((l152.trans l207).trans l220).trans l222)) (by omega) A152.wf.ahead) (Ret.elim ?_)
                rintro w235 h235 _ l235 G235 ⟨ax234, cx234, rfl, rx234⟩
                obtain rfl : j = row.length := by omega
                obtain ⟨h236, l236, G236, r236⟩ := og222.freeze G235
                have hil237 : (pathN row (row.length + 1) id).length ≤ 1000000 := by first | exact Nat.le_trans (pathN_len _ _ _) (by omega) | exact Nat.le_trans (kidsOf_len _ _) (by omega)
                refine WL.call (by kernel_rfl) rfl (by kernel_rfl) (by kernel_rfl) (ints_spec (ax := ap207) (ay := ax234) (xs := (pathN row (row.length + 1) id)) (ys := (pathN row (row.length + 1) id)) (cx := ((pathN row (row.length + 1) id).length)) (cy := cx234) G236 (rp207.mono (((((PH.le_refl _).trans l220).trans l222).trans l235).trans l236)) (rx234.mono ((PH.le_refl _).trans l236)) (by assumption)) (Ret.elim ?_)
                rintro w238 h238 _ l238 G238 rfl
                refine WL.know 196 (.bool true) (x := .bool (decide ((pathN row (row.length + 1) id) = (pathN row (row.length + 1) id)))) (by kernel_rfl) (congrArg Value.bool (dec_self)) ?_
                refine WL.q (.bool false) (by kernel_rfl) rfl (by kernel_rfl) (by kernel_rfl) ?_
                refine WL.q (.bool false) (by kernel_rfl) rfl (by kernel_rfl) (by kernel_rfl) ?_
                refine WL.q (.bool false) (by kernel_rfl) rfl (by kernel_rfl) (by kernel_rfl) ?_
                refine WL.q (.bool (decide ((atF row id) ≥ 0))) (by kernel_rfl) rfl (by kernel_rfl) (by kernel_rfl) ?_
                refine WL.q (.bool (decide ((atF row id) ≥ 0))) (by kernel_rfl) rfl (by kernel_rfl) (by kernel_rfl) ?_
                refine WL.know 201 (.bool false) (x := .bool (decide ((atF row id) ≥ 0))) (by kernel_rfl) (congrArg Value.bool c231) ?_
                refine WL.skip (by kernel_rfl) rfl (by kernel_rfl) ?_
                refine WL.skip (by kernel_rfl) rfl (by kernel_rfl) ?_
                refine WL.skip (by kernel_rfl) rfl (by kernel_rfl) ?_
                refine WL.skip (by kernel_rfl) rfl (by kernel_rfl) ?_
                refine WL.skip (by kernel_rfl) rfl (by kernel_rfl) ?_
                refine WL.skip (by kernel_rfl) rfl (by kernel_rfl) ?_
                refine WL.q (.bool false) (by kernel_rfl) rfl (by kernel_rfl) (by kernel_rfl) ?_
                refine WL.q (.bool false) (by kernel_rfl) rfl (by kernel_rfl) (by kernel_rfl) ?_
                refine WL.q (.bool false) (by kernel_rfl) rfl (by kernel_rfl) (by kernel_rfl) ?_
                refine WL.q (.bool (decide ((atF row id) ≥ 0))) (by kernel_rfl) rfl (by kernel_rfl) (by kernel_rfl) ?_
                refine WL.q (.bool (!(decide ((atF row id) ≥ 0)))) (by kernel_rfl) rfl (by kernel_rfl) (by kernel_rfl) ?_
                refine WL.q (.bool (!(decide ((atF row id) ≥ 0)))) (by kernel_rfl) rfl (by kernel_rfl) (by kernel_rfl) ?_
                rcases bool_cases (!(decide ((atF row id) ≥ 0))) with c239 | c239
                ·
                  skip
                  have d240 := not_true c239
                  have d241 := of_decide_eq_false d240
                  refine WL.know 213 (.bool true) (x := .bool (!(decide ((atF row id) ≥ 0)))) (by kernel_rfl) (congrArg Value.bool c239) ?_
                  refine WL.q (.pointer (some ⟨p5, 0, none⟩)) (by kernel_rfl) rfl (by kernel_rfl) (by kernel_rfl) ?_
                  refine WL.q (.int .i64 id) (by kernel_rfl) rfl (by kernel_rfl) (by kernel_rfl) ?_
                  refine WL.call (by kernel_rfl) rfl (by kernel_rfl) (by kernel_rfl) (kidsT_spec G238 A152 (by omega) id) (Ret.elim ?_)
                  rintro w242 h242 _ l242 G242 ⟨ak242, rfl, rk242⟩
                  refine WL.q (.int .i64 ((kidsOf row id).length : Int)) (by kernel_rfl) rfl (by kernel_rfl) (by kernel_rfl) ?_
                  refine WL.q (.bool ((((kidsOf row id).length : Int) : Int) != 0)) (by kernel_rfl) rfl (by kernel_rfl) (by kernel_rfl) ?_
                  refine WL.q (.bool ((((kidsOf row id).length : Int) : Int) != 0)) (by kernel_rfl) rfl (by kernel_rfl) (by kernel_rfl) ?_
                  refine WL.q (.bool ((((kidsOf row id).length : Int) : Int) != 0)) (by kernel_rfl) rfl (by kernel_rfl) (by kernel_rfl) ?_
                  refine WL.nil ?_
                  refine EX.then_code ?_
                  refine CW.cond ((((kidsOf row id).length : Int) : Int) != 0) (by kernel_rfl) (by kernel_rfl) (fun c243 => ?_) (fun c243 => ?_)
                  ·
                    skip
                    have d244 := bne_true c243
                    refine CW.seq ?_
                    refine CW.region ?_
                    refine WL.q (.bool false) (by kernel_rfl) rfl (by kernel_rfl) (by kernel_rfl) ?_
                    refine WL.nil ?_
                    refine EX.then_code ?_
                    refine CW.ret ?_
                    refine EX.ret_block ?_
                    refine EX.ret_then ?_
                    refine EX.ret_then ?_
                    refine EX.ret_block ?_
                    refine EX.ret_then ?_
                    refine EX.ret1 (v := (.bool false)) rfl (by kernel_rfl) ?_
                    first | (exfalso; omega) | (exfalso; simp only [List.length_append, List.length_cons, List.length_nil, List.nil_append] at *; omega) | (exfalso; simp_all; done)
                  ·
                    skip
                    have d245 := bne_false c243
                    refine CW.skip ?_
                    refine EX.in_block ?_
                    refine EX.then_code ?_
                    refine CW.region ?_
                    refine WL.q (.int .i64 id) (by kernel_rfl) rfl (by kernel_rfl) (by kernel_rfl) ?_
                    refine WL.q (.int .i64 (id + 1)) (by kernel_rfl) rfl (by kernel_rfl) (q_int (x := IntKind.i64.wrap (id + 1)) (by kernel_rfl) (wrap_to (by omega) (by omega) (by omega))) ?_
                    refine WL.q (.int .i64 (id + 1)) (by kernel_rfl) rfl (by kernel_rfl) (by kernel_rfl) ?_
                    refine WL.nil ?_
                    exact EX.then_loop (id + 1) ⟨(by kernel_rfl), (by kernel_rfl), (by kernel_rfl), (by kernel_rfl), trivial⟩ ⟨h242, Mu152, (((((((l152.trans l207).trans l220).trans l222).trans l235).trans l236).trans l238).trans l242), G242, A152, (by first | omega | (dsimp only [List.length_nil, List.length_append, List.length_cons]; omega)), (by first | omega | (dsimp only [List.length_nil, List.length_append, List.length_cons]; omega))⟩ (by first | omega | (dsimp only; omega))
                ·
                  skip
                  have d246 := not_false c239
                  have d247 := of_decide_eq_true d246
                  refine WL.know 213 (.bool false) (x := .bool (!(decide ((atF row id) ≥ 0)))) (by kernel_rfl) (congrArg Value.bool c239) ?_
                  refine WL.skip (by kernel_rfl) rfl (by kernel_rfl) ?_
                  refine WL.skip (by kernel_rfl) rfl (by kernel_rfl) ?_
                  refine WL.skip (by kernel_rfl) rfl (by kernel_rfl) ?_
                  refine WL.skip (by kernel_rfl) rfl (by kernel_rfl) ?_
                  refine WL.skip (by kernel_rfl) rfl (by kernel_rfl) ?_
                  refine WL.q (.bool false) (by kernel_rfl) rfl (by kernel_rfl) (by kernel_rfl) ?_
                  refine WL.q (.bool false) (by kernel_rfl) rfl (by kernel_rfl) (by kernel_rfl) ?_
                  refine WL.nil ?_
                  refine EX.then_code ?_
                  refine CW.cond_f (by kernel_rfl) (by kernel_rfl) ?_
                  refine CW.skip ?_
                  refine EX.in_block ?_
                  refine EX.then_code ?_
                  refine CW.region ?_
                  refine WL.q (.int .i64 id) (by kernel_rfl) rfl (by kernel_rfl) (by kernel_rfl) ?_
                  refine WL.q (.int .i64 (id + 1)) (by kernel_rfl) rfl (by kernel_rfl) (q_int (x := IntKind.i64.wrap (id + 1)) (by kernel_rfl) (wrap_to (by omega) (by omega) (by omega))) ?_
                  refine WL.q (.int .i64 (id + 1)) (by kernel_rfl) rfl (by kernel_rfl) (by kernel_rfl) ?_
                  refine WL.nil ?_
                  exact EX.then_loop (id + 1) ⟨(by kernel_rfl), (by kernel_rfl), (by kernel_rfl), (by kernel_rfl), trivial⟩ ⟨h238, Mu152, ((((((l152.trans l207).trans l220).trans l222).trans l235).trans l236).trans l238), G238, A152, (by first | omega | (dsimp only [List.length_nil, List.length_append, List.length_cons]; omega)), (by first | omega | (dsimp only [List.length_nil, List.length_append, List.length_cons]; omega))⟩ (by first | omega | (dsimp only; omega))
      ·
        skip
        have d248 := of_decide_eq_false c153
        refine CW.exit ?_
        refine EX.exit_then ?_
        refine EX.exit_then ?_
        refine EX.exit_here ?_
        refine EX.then_code ?_
        refine CW.seq ?_
        refine CW.region ?_
        refine WL.q (.bool true) (by kernel_rfl) rfl (by kernel_rfl) (by kernel_rfl) ?_
        refine WL.nil ?_
        refine EX.then_code ?_
        refine CW.ret ?_
        refine EX.ret1 (v := (.bool true)) rfl (by kernel_rfl) ?_
        exact Ret.mk (((((PH.le_refl _).trans l1).trans l5).trans l6).trans l152) (G152.drop A152.le) rfl
end Go.Proofs
