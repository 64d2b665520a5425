import Derived.Test.YtaepnhapggdceaaDoorFu
namespace Go.Proofs
open Go Go.Wk
theorem full_spec {K : Key} {w : World} {h M : PH} (G : Wld K w h M) (T : Tab Tryd.prog h) {over gone : Int} (ho : -9223372036854775808 ≤ over ∧ over ≤ 9223372036854775807) (hg : -9223372036854775808 ≤ gone ∧ gone ≤ 9223372036854775807) :
    Calls Tryd.prog 3 #[.int .i64 over, .int .i64 gone] w (Ret K h M fun _ v => v = .bool true) := by
  refine enter (l := [(.int .i64 over), (.int .i64 gone)]) Tryd.func3 rfl Tryd.ntmps3 (Nat.le_of_ble_eq_true rfl) ?_
  simp only [params]
  refine CW.seq ?_
  refine CW.region ?_
  refine WL.q (.bool false) (by kernel_rfl) rfl (by kernel_rfl) (by kernel_rfl) ?_
  refine WL.nil ?_
  refine EX.then_code ?_
  refine CW.seq ?_
  refine CW.seq ?_
  refine CW.region ?_
  refine WL.call (by kernel_rfl) rfl (by kernel_rfl) (by kernel_rfl) (known_spec G (T.mono (PH.le_refl _))) (Ret.elim ?_)
  rintro w1 h1 _ l1 G1 rfl
  refine WL.q (.bool false) (by kernel_rfl) rfl (by kernel_rfl) (by kernel_rfl) ?_
  refine WL.nil ?_
  refine EX.then_code ?_
  refine CW.cond_f (by kernel_rfl) (by kernel_rfl) ?_
  refine CW.skip ?_
  refine EX.then_code ?_
  refine CW.seq ?_
  refine CW.seq ?_
  refine CW.region ?_
  refine WL.q (.int .i64 over) (by kernel_rfl) rfl (by kernel_rfl) (by kernel_rfl) ?_
  refine WL.q (.bool (decide (over < 1))) (by kernel_rfl) rfl (by kernel_rfl) (by kernel_rfl) ?_
  refine WL.q (.bool (decide (over < 1))) (by kernel_rfl) rfl (by kernel_rfl) (by kernel_rfl) ?_
  rcases bool_cases (decide (over < 1)) with c2 | c2
  ·
    skip
    have d3 := of_decide_eq_true c2
    refine WL.know 25 (.bool true) (x := .bool (decide (over < 1))) (by kernel_rfl) (congrArg Value.bool c2) ?_
    refine WL.skip (by kernel_rfl) rfl (by kernel_rfl) ?_
    refine WL.skip (by kernel_rfl) rfl (by kernel_rfl) ?_
    refine WL.q (.bool true) (by kernel_rfl) rfl (by kernel_rfl) (by kernel_rfl) ?_
    refine WL.q (.bool true) (by kernel_rfl) rfl (by kernel_rfl) (by kernel_rfl) ?_
    refine WL.skip (by kernel_rfl) rfl (by kernel_rfl) ?_
    refine WL.skip (by kernel_rfl) rfl (by kernel_rfl) ?_
    refine WL.q (.bool true) (by kernel_rfl) rfl (by kernel_rfl) (by kernel_rfl) ?_
    refine WL.q (.bool true) (by kernel_rfl) rfl (by kernel_rfl) (by kernel_rfl) ?_
    refine WL.skip (by kernel_rfl) rfl (by kernel_rfl) ?_
    refine WL.skip (by kernel_rfl) rfl (by kernel_rfl) ?_
    refine WL.q (.bool true) (by kernel_rfl) rfl (by kernel_rfl) (by kernel_rfl) ?_
    refine WL.nil ?_
    refine EX.then_code ?_
    refine CW.cond_t (by kernel_rfl) (by kernel_rfl) ?_
    refine CW.seq ?_
    refine CW.region ?_
    refine WL.q (.bool true) (by kernel_rfl) rfl (by kernel_rfl) (by kernel_rfl) ?_
    refine WL.nil ?_
    refine EX.then_code ?_
    refine CW.ret ?_
    refine EX.ret_then ?_
    refine EX.ret1 (v := (.bool true)) rfl (by kernel_rfl) ?_
    exact Ret.mk l1 G1 rfl
  ·
    skip
    have d4 := of_decide_eq_false c2
    refine WL.know 25 (.bool false) (x := .bool (decide (over < 1))) (by kernel_rfl) (congrArg Value.bool c2) ?_
    refine WL.q (.int .i64 over) (by kernel_rfl) rfl (by kernel_rfl) (by kernel_rfl) ?_
    refine WL.q (.bool (decide (over > 20))) (by kernel_rfl) rfl (by kernel_rfl) (by kernel_rfl) ?_
    refine WL.q (.bool (decide (over > 20))) (by kernel_rfl) rfl (by kernel_rfl) (by kernel_rfl) ?_
    refine WL.q (.bool (decide (over > 20))) (by kernel_rfl) rfl (by kernel_rfl) (by kernel_rfl) ?_
    rcases bool_cases (decide (over > 20)) with c5 | c5
    ·
      skip
      have d6 := of_decide_eq_true c5
      refine WL.know 29 (.bool true) (x := .bool (decide (over > 20))) (by kernel_rfl) (congrArg Value.bool c5) ?_
      refine WL.skip (by kernel_rfl) rfl (by kernel_rfl) ?_
      refine WL.skip (by kernel_rfl) rfl (by kernel_rfl) ?_
      refine WL.q (.bool true) (by kernel_rfl) rfl (by kernel_rfl) (by kernel_rfl) ?_
      refine WL.q (.bool true) (by kernel_rfl) rfl (by kernel_rfl) (by kernel_rfl) ?_
      refine WL.skip (by kernel_rfl) rfl (by kernel_rfl) ?_
      refine WL.skip (by kernel_rfl) rfl (by kernel_rfl) ?_
      refine WL.q (.bool true) (by kernel_rfl) rfl (by kernel_rfl) (by kernel_rfl) ?_
      refine WL.nil ?_
      refine EX.then_code ?_
      refine CW.cond_t (by kernel_rfl) (by kernel_rfl) ?_
      refine CW.seq ?_
      refine CW.region ?_
      refine WL.q (.bool true) (by kernel_rfl) rfl (by kernel_rfl) (by kernel_rfl) ?_
      refine WL.nil ?_
      refine EX.then_code ?_
      refine CW.ret ?_
      refine EX.ret_then ?_
      refine EX.ret1 (v := (.bool true)) rfl (by kernel_rfl) ?_
      exact Ret.mk l1 G1 rfl
    ·
      skip
      have d7 := of_decide_eq_false c5
      refine WL.know 29 (.bool false) (x := .bool (decide (over > 20))) (by kernel_rfl) (congrArg Value.bool c5) ?_
      refine WL.q (.int .i64 gone) (by kernel_rfl) rfl (by kernel_rfl) (by kernel_rfl) ?_
      refine WL.q (.bool (decide (gone < 1))) (by kernel_rfl) rfl (by kernel_rfl) (by kernel_rfl) ?_
      refine WL.q (.bool (decide (gone < 1))) (by kernel_rfl) rfl (by kernel_rfl) (by kernel_rfl) ?_
      refine WL.q (.bool (decide (gone < 1))) (by kernel_rfl) rfl (by kernel_rfl) (by kernel_rfl) ?_
      rcases bool_cases (decide (gone < 1)) with c8 | c8
      ·
        skip
        have d9 := of_decide_eq_true c8
        refine WL.know 33 (.bool true) (x := .bool (decide (gone < 1))) (by kernel_rfl) (congrArg Value.bool c8) ?_
        refine WL.skip (by kernel_rfl) rfl (by kernel_rfl) ?_
        refine WL.skip (by kernel_rfl) rfl (by kernel_rfl) ?_
        refine WL.q (.bool true) (by kernel_rfl) rfl (by kernel_rfl) (by kernel_rfl) ?_
        refine WL.nil ?_
        refine EX.then_code ?_
        refine CW.cond_t (by kernel_rfl) (by kernel_rfl) ?_
        refine CW.seq ?_
        refine CW.region ?_
        refine WL.q (.bool true) (by kernel_rfl) rfl (by kernel_rfl) (by kernel_rfl) ?_
        refine WL.nil ?_
        refine EX.then_code ?_
        refine CW.ret ?_
        refine EX.ret_then ?_
        refine EX.ret1 (v := (.bool true)) rfl (by kernel_rfl) ?_
        exact Ret.mk l1 G1 rfl
      ·
        skip
        have d10 := of_decide_eq_false c8
        refine WL.know 33 (.bool false) (x := .bool (decide (gone < 1))) (by kernel_rfl) (congrArg Value.bool c8) ?_
        refine WL.q (.int .i64 gone) (by kernel_rfl) rfl (by kernel_rfl) (by kernel_rfl) ?_
        refine WL.q (.bool (decide (gone > 1000))) (by kernel_rfl) rfl (by kernel_rfl) (by kernel_rfl) ?_
        refine WL.q (.bool (decide (gone > 1000))) (by kernel_rfl) rfl (by kernel_rfl) (by kernel_rfl) ?_
        refine WL.nil ?_
        refine EX.then_code ?_
        refine CW.cond (decide (gone > 1000)) (by kernel_rfl) (by kernel_rfl) (fun c11 => ?_) (fun c11 => ?_)
        ·
          skip
          have d12 := of_decide_eq_true c11
          refine CW.seq ?_
          refine CW.region ?_
          refine WL.q (.bool true) (by kernel_rfl) rfl (by kernel_rfl) (by kernel_rfl) ?_
          refine WL.nil ?_
          refine EX.then_code ?_
          refine CW.ret ?_
          refine EX.ret_then ?_
          refine EX.ret1 (v := (.bool true)) rfl (by kernel_rfl) ?_
          exact Ret.mk l1 G1 rfl
        ·
          skip
          have d13 := of_decide_eq_false c11
          refine CW.skip ?_
          refine EX.then_code ?_
          refine CW.seq ?_
          refine CW.region ?_
          refine WL.call (by kernel_rfl) rfl (by kernel_rfl) (by kernel_rfl) (newA G1) (RetM.elim ?_)
          rintro w14 h14 M14 _ l14 G14 ⟨p14, rfl, A14⟩
          refine WL.q (.pointer (some ⟨p14, 0, none⟩)) (by kernel_rfl) rfl (by kernel_rfl) (by kernel_rfl) ?_
          refine WL.nil ?_
          refine EX.then_code ?_
          refine CW.seq ?_
          refine CW.seq ?_
          refine CW.region ?_
          refine WL.q (.int .i64 1) (by kernel_rfl) rfl (by kernel_rfl) (by kernel_rfl) ?_
          refine WL.nil ?_
          refine EX.then_code ?_
          refine CW.block ?_
          have A15 : MemA h14 p14 (fullD (1 - 1)) 1 M M14 := A14
          refine CW.loop (β := Nat) (fun x_ => [(0, (.int .i64 over)), (1, (.int .i64 gone)), (5, (.pointer (some ⟨p14, 0, none⟩))), (6, (.int .i64 (x_ : Int)))]) (fun x_ w_ => ∃ h_ M0_, (PH.le h14 h_) ∧ (Wld K w_ h_ M0_) ∧ (MemA h_ p14 (fullD (x_ - 1)) (x_ : Int) M M0_) ∧ (1 ≤ x_) ∧ (x_ ≤ 1001)) (fun x_ => 1001 - x_) 1 ⟨(by kernel_rfl), (by kernel_rfl), (by kernel_rfl), (lk_int (x := 1) (by kernel_rfl) (by first | omega | (dsimp only; done) | (dsimp only; omega))), trivial⟩ ⟨h14, M14, (PH.le_refl _), G14, A15, (by first | omega | assumption | (dsimp only [List.length_nil, List.length_append, List.length_cons]; omega)), (by first | omega | assumption | (dsimp only [List.length_nil, List.length_append, List.length_cons]; omega))⟩ ?_
          rintro i w16 ⟨h16, M0_16, l16, G16, o_mem16, hi, hi2⟩
          try dsimp only at *
          refine CW.seq ?_
          refine CW.seq ?_
          refine CW.region ?_
          refine WL.q (.int .i64 (i : Int)) (by kernel_rfl) rfl (by kernel_rfl) (by kernel_rfl) ?_
          refine WL.q (.bool (decide ((i : Int) ≤ 1000))) (by kernel_rfl) rfl (by kernel_rfl) (by kernel_rfl) ?_
          refine WL.nil ?_
          refine EX.then_code ?_
          refine CW.cond (decide ((i : Int) ≤ 1000)) (by kernel_rfl) (by kernel_rfl) (fun c17 => ?_) (fun c17 => ?_)
          ·
            skip
            have d18 := of_decide_eq_true c17
            refine CW.skip ?_
            refine EX.then_code ?_
            refine CW.seq ?_
            refine CW.block ?_
            refine CW.seq ?_
            refine CW.region ?_
            refine WL.q (.pointer (some ⟨p14, 0, none⟩)) (by kernel_rfl) rfl (by kernel_rfl) (by kernel_rfl) ?_
            refine WL.q (.int .i64 (i : Int)) (by kernel_rfl) rfl (by kernel_rfl) (by kernel_rfl) ?_
            refine WL.call (by kernel_rfl) rfl (by kernel_rfl) (by kernel_rfl) (int_spec G16 (i : Int)) (Ret.elim ?_)
            rintro w19 h19 _ l19 G19 rfl
            refine WL.ex (by kernel_rfl) rfl (by kernel_rfl) (q_newF (ob := (.cells #[(.int .i64 1), (.int .i64 (i : Int)), (.string (ByteArray.mk #[]))] 29 (0, 0))) G19 (fun b_ => .slice (some ⟨b_, 0, none⟩) 1 1) (fun u_ => by kernel_rfl)) ?_
            rintro _ w20 ⟨b20, h20, rfl, l20, G20, hb20, L20⟩
            have r21 : RS h20 valE (some ⟨b20, 0, none⟩) [(Val.mk 1 (i : Int) (ByteArray.mk #[]))] := RS.blk hb20 (by kernel_rfl)
            refine WL.call (by kernel_rfl) rfl (by kernel_rfl) (by kernel_rfl) (assertA_new G20 (MemA.mono (l19.trans l20) o_mem16) (T.mono ((((l1.trans l14).trans l16).trans l19).trans l20)) (t := (ByteArray.mk #[116])) (a := (some ⟨b20, 0, none⟩)) (xs := ([(Val.mk 1 (i : Int) (ByteArray.mk #[]))])) (c := 1) (r21.mono (PH.le_refl _)) (fok1 _ (by decide) (by omega) (by omega)) (full_none (k := i - 1) (n := (i : Int)) (by omega)) (by rw [fullD_len]; omega) (by omega)) (RetM.elim ?_)
            rintro w22 h22 M22 _ l22 G22 ⟨rfl, A22⟩
            refine WL.q (.tuple #[(.int .i64 (i : Int)), (.bool true), (.int .i64 0)]) (by kernel_rfl) rfl (by kernel_rfl) (by kernel_rfl) ?_
            refine WL.q (.int .i64 (i : Int)) (by kernel_rfl) rfl (by kernel_rfl) (by kernel_rfl) ?_
            refine WL.q (.bool true) (by kernel_rfl) rfl (by kernel_rfl) (by kernel_rfl) ?_
            refine WL.q (.int .i64 0) (by kernel_rfl) rfl (by kernel_rfl) (by kernel_rfl) ?_
            refine WL.q (.int .i64 (i : Int)) (by kernel_rfl) rfl (by kernel_rfl) (by kernel_rfl) ?_
            refine WL.q (.bool true) (by kernel_rfl) rfl (by kernel_rfl) (by kernel_rfl) ?_
            refine WL.q (.int .i64 0) (by kernel_rfl) rfl (by kernel_rfl) (by kernel_rfl) ?_
            refine WL.nil ?_
            refine EX.then_code ?_
            refine CW.seq ?_
            refine CW.region ?_
            refine WL.q (.int .i64 (i : Int)) (by kernel_rfl) rfl (by kernel_rfl) (by kernel_rfl) ?_
            refine WL.q (.int .i64 (i : Int)) (by kernel_rfl) rfl (by kernel_rfl) (by kernel_rfl) ?_
            refine WL.q (.bool false) (by kernel_rfl) rfl (by kernel_rfl) (q_bool (x := (((i : Int) : Int) != (i : Int))) (by kernel_rfl) (bne_self_eq_false _)) ?_
            refine WL.q (.bool false) (by kernel_rfl) rfl (by kernel_rfl) (by kernel_rfl) ?_
            refine WL.q (.bool true) (by kernel_rfl) rfl (by kernel_rfl) (by kernel_rfl) ?_
            refine WL.q (.bool false) (by kernel_rfl) rfl (by kernel_rfl) (by kernel_rfl) ?_
            refine WL.q (.bool false) (by kernel_rfl) rfl (by kernel_rfl) (by kernel_rfl) ?_
            refine WL.q (.bool false) (by kernel_rfl) rfl (by kernel_rfl) (by kernel_rfl) ?_
            refine WL.q (.int .i64 0) (by kernel_rfl) rfl (by kernel_rfl) (by kernel_rfl) ?_
            refine WL.q (.bool false) (by kernel_rfl) rfl (by kernel_rfl) (by kernel_rfl) ?_
            refine WL.q (.bool false) (by kernel_rfl) rfl (by kernel_rfl) (by kernel_rfl) ?_
            refine WL.nil ?_
            refine EX.then_code ?_
            refine CW.cond_f (by kernel_rfl) (by kernel_rfl) ?_
            refine CW.skip ?_
            refine EX.in_block ?_
            refine EX.then_code ?_
            refine CW.region ?_
            refine WL.q (.int .i64 (i : Int)) (by kernel_rfl) rfl (by kernel_rfl) (by kernel_rfl) ?_
            refine WL.q (.int .i64 ((i + 1 : Nat) : Int)) (by kernel_rfl) rfl (by kernel_rfl) (q_int (x := IntKind.i64.wrap ((i : Int) + 1)) (by kernel_rfl) (wrap_to (by omega) (by omega) (by omega))) ?_
            refine WL.q (.int .i64 ((i + 1 : Nat) : Int)) (by kernel_rfl) rfl (by kernel_rfl) (by kernel_rfl) ?_
            refine WL.nil ?_
            have A23 : MemA h22 p14 (fullD i) ((i + 1 : Nat) : Int) M M22 := by have q_ := A22; have e_ := fullD_succ (i - 1); rw [show (((i - 1 : Nat) : Int) + 1) = (i : Int) by omega, show i - 1 + 1 = i by omega] at e_; rw [← e_]; exact q_
            exact EX.then_loop (i + 1) ⟨(by kernel_rfl), (by kernel_rfl), (by kernel_rfl), (lk_int (x := ((i + 1 : Nat) : Int)) (by kernel_rfl) (by first | omega | (dsimp only; done) | (dsimp only; omega))), trivial⟩ ⟨h22, M22, (((l16.trans l19).trans l20).trans l22), G22, A23, (by first | omega | assumption | (dsimp only [List.length_nil, List.length_append, List.length_cons]; omega)), (by first | omega | assumption | (dsimp only [List.length_nil, List.length_append, List.length_cons]; omega))⟩ (by first | omega | (dsimp only; omega))
          ·
            skip
            have d24 := of_decide_eq_false c17
            refine CW.exit ?_
            refine EX.exit_then ?_
            refine EX.exit_then ?_
            refine EX.exit_here ?_
            refine EX.then_code ?_
            refine CW.seq ?_
            refine CW.seq ?_
            refine CW.region ?_
            refine WL.q (.int .i64 0) (by kernel_rfl) rfl (by kernel_rfl) (by kernel_rfl) ?_
            refine WL.nil ?_
            refine EX.then_code ?_
            refine CW.block ?_
            obtain rfl : i = 1001 := by omega
            have A25 : MemA h16 p14 (fullD 1000) 1001 M M0_16 := by have q_ := o_mem16; simp only [Nat.reduceSub] at q_; exact q_
            refine CW.loop (β := Nat) (fun x_ => [(0, (.int .i64 over)), (1, (.int .i64 gone)), (5, (.pointer (some ⟨p14, 0, none⟩))), (10, (.int .i64 (x_ : Int)))]) (fun x_ w_ => ∃ h_ M0_, (PH.le h16 h_) ∧ (Wld K w_ h_ M0_) ∧ (MemA h_ p14 (fullD 1000) 1001 M M0_) ∧ ((x_ : Int) ≤ over)) (fun x_ => over.toNat - x_) 0 ⟨(by kernel_rfl), (by kernel_rfl), (by kernel_rfl), (lk_int (x := 0) (by kernel_rfl) (by first | omega | (dsimp only; done) | (dsimp only; omega))), trivial⟩ ⟨h16, M0_16, (PH.le_refl _), G16, A25, (by first | omega | assumption | (dsimp only [List.length_nil, List.length_append, List.length_cons]; omega))⟩ ?_
            rintro k w26 ⟨h26, M0_26, l26, G26, o_mem26, hk⟩
            try dsimp only at *
            refine CW.seq ?_
            refine CW.seq ?_
            refine CW.region ?_
            refine WL.q (.int .i64 (k : Int)) (by kernel_rfl) rfl (by kernel_rfl) (by kernel_rfl) ?_
            refine WL.q (.int .i64 over) (by kernel_rfl) rfl (by kernel_rfl) (by kernel_rfl) ?_
            refine WL.q (.bool (decide ((k : Int) < over))) (by kernel_rfl) rfl (by kernel_rfl) (by kernel_rfl) ?_
            refine WL.nil ?_
            refine EX.then_code ?_
            refine CW.cond (decide ((k : Int) < over)) (by kernel_rfl) (by kernel_rfl) (fun c27 => ?_) (fun c27 => ?_)
            ·
              skip
              have d28 := of_decide_eq_true c27
              refine CW.skip ?_
              refine EX.then_code ?_
              refine CW.seq ?_
              refine CW.block ?_
              refine CW.seq ?_
              refine CW.region ?_
              refine WL.q (.pointer (some ⟨p14, 0, none⟩)) (by kernel_rfl) rfl (by kernel_rfl) (by kernel_rfl) ?_
              refine WL.q (.int .i64 (k : Int)) (by kernel_rfl) rfl (by kernel_rfl) (by kernel_rfl) ?_
              refine WL.q (.int .i64 ((2000 + k : Nat) : Int)) (by kernel_rfl) rfl (by kernel_rfl) (q_int (x := IntKind.i64.wrap (2000 + (k : Int))) (by kernel_rfl) (wrap_to (by omega) (by omega) (by omega))) ?_
              refine WL.know 70 (.int .i64 (2000 + (k : Int))) (x := (.int .i64 ((2000 + k : Nat) : Int))) (by kernel_rfl) (rfl) ?_
              refine WL.call (by kernel_rfl) rfl (by kernel_rfl) (by kernel_rfl) (int_spec G26 (2000 + (k : Int))) (Ret.elim ?_)
              rintro w29 h29 _ l29 G29 rfl
              refine WL.ex (by kernel_rfl) rfl (by kernel_rfl) (q_newF (ob := (.cells #[(.int .i64 1), (.int .i64 (2000 + (k : Int))), (.string (ByteArray.mk #[]))] 29 (0, 0))) G29 (fun b_ => .slice (some ⟨b_, 0, none⟩) 1 1) (fun u_ => by kernel_rfl)) ?_
              rintro _ w30 ⟨b30, h30, rfl, l30, G30, hb30, L30⟩
              have r31 : RS h30 valE (some ⟨b30, 0, none⟩) [(Val.mk 1 (2000 + (k : Int)) (ByteArray.mk #[]))] := RS.blk hb30 (by kernel_rfl)
              refine WL.call (by kernel_rfl) rfl (by kernel_rfl) (by kernel_rfl) (assertA_full G30 (MemA.mono (l29.trans l30) o_mem26) (T.mono (((((l1.trans l14).trans l16).trans l26).trans l29).trans l30)) (t := (ByteArray.mk #[116])) (a := (some ⟨b30, 0, none⟩)) (xs := ([(Val.mk 1 (2000 + (k : Int)) (ByteArray.mk #[]))])) (c := 1) (r31.mono (PH.le_refl _)) (fok1 _ (by decide) (by omega) (by omega)) (full_none (k := 1000) (n := (2000 + (k : Int))) (by omega)) (by rw [fullD_len]; omega)) (Ret.elim ?_)
              rintro w32 h32 _ l32 G32 rfl
              refine WL.q (.tuple #[(.int .i64 0), (.bool false), (.int .i64 10)]) (by kernel_rfl) rfl (by kernel_rfl) (by kernel_rfl) ?_
              refine WL.q (.int .i64 0) (by kernel_rfl) rfl (by kernel_rfl) (by kernel_rfl) ?_
              refine WL.q (.bool false) (by kernel_rfl) rfl (by kernel_rfl) (by kernel_rfl) ?_
              refine WL.q (.int .i64 10) (by kernel_rfl) rfl (by kernel_rfl) (by kernel_rfl) ?_
              refine WL.q (.int .i64 0) (by kernel_rfl) rfl (by kernel_rfl) (by kernel_rfl) ?_
              refine WL.q (.bool false) (by kernel_rfl) rfl (by kernel_rfl) (by kernel_rfl) ?_
              refine WL.q (.int .i64 10) (by kernel_rfl) rfl (by kernel_rfl) (by kernel_rfl) ?_
              refine WL.nil ?_
              refine EX.then_code ?_
              refine CW.seq ?_
              refine CW.region ?_
              refine WL.q (.int .i64 0) (by kernel_rfl) rfl (by kernel_rfl) (by kernel_rfl) ?_
              refine WL.q (.bool false) (by kernel_rfl) rfl (by kernel_rfl) (by kernel_rfl) ?_
              refine WL.q (.bool false) (by kernel_rfl) rfl (by kernel_rfl) (by kernel_rfl) ?_
              refine WL.q (.bool false) (by kernel_rfl) rfl (by kernel_rfl) (by kernel_rfl) ?_
              refine WL.q (.bool false) (by kernel_rfl) rfl (by kernel_rfl) (by kernel_rfl) ?_
              refine WL.q (.bool false) (by kernel_rfl) rfl (by kernel_rfl) (by kernel_rfl) ?_
              refine WL.q (.int .i64 10) (by kernel_rfl) rfl (by kernel_rfl) (by kernel_rfl) ?_
              refine WL.q (.bool false) (by kernel_rfl) rfl (by kernel_rfl) (by kernel_rfl) ?_
              refine WL.q (.bool false) (by kernel_rfl) rfl (by kernel_rfl) (by kernel_rfl) ?_
              refine WL.nil ?_
              refine EX.then_code ?_
              refine CW.cond_f (by kernel_rfl) (by kernel_rfl) ?_
              refine CW.skip ?_
              refine EX.in_block ?_
              refine EX.then_code ?_
              refine CW.region ?_
              refine WL.q (.int .i64 (k : Int)) (by kernel_rfl) rfl (by kernel_rfl) (by kernel_rfl) ?_
              refine WL.q (.int .i64 ((k + 1 : Nat) : Int)) (by kernel_rfl) rfl (by kernel_rfl) (q_int (x := IntKind.i64.wrap ((k : Int) + 1)) (by kernel_rfl) (wrap_to (by omega) (by omega) (by omega))) ?_
              refine WL.q (.int .i64 ((k + 1 : Nat) : Int)) (by kernel_rfl) rfl (by kernel_rfl) (by kernel_rfl) ?_
              refine WL.nil ?_
              exact EX.then_loop (k + 1) ⟨(by kernel_rfl), (by kernel_rfl), (by kernel_rfl), (lk_int (x := ((k + 1 : Nat) : Int)) (by kernel_rfl) (by first | omega | (dsimp only; done) | (dsimp only; omega))), trivial⟩ ⟨h32, M0_26, (((l26.trans l29).trans l30).trans l32), G32, (MemA.mono ((l29.trans l30).trans l32) o_mem26), (by first | omega | assumption | (dsimp only [List.length_nil, List.length_append, List.length_cons]; omega))⟩ (by first | omega | (dsimp only; omega))
            ·
              skip
              have d33 := of_decide_eq_false c27
              refine CW.exit ?_
              refine EX.exit_then ?_
              refine EX.exit_then ?_
              refine EX.exit_here ?_
              refine EX.then_code ?_
              refine CW.seq ?_
              refine CW.region ?_
              refine WL.q (.pointer (some ⟨p14, 0, none⟩)) (by kernel_rfl) rfl (by kernel_rfl) (by kernel_rfl) ?_
              refine WL.q (.int .i64 gone) (by kernel_rfl) rfl (by kernel_rfl) (by kernel_rfl) ?_
              refine WL.call (by kernel_rfl) rfl (by kernel_rfl) (by kernel_rfl) (int_spec G26 gone) (Ret.elim ?_)
              rintro w34 h34 _ l34 G34 rfl
              refine WL.ex (by kernel_rfl) rfl (by kernel_rfl) (q_newF (ob := (.cells #[(.int .i64 1), (.int .i64 gone), (.string (ByteArray.mk #[]))] 29 (0, 0))) G34 (fun b_ => .slice (some ⟨b_, 0, none⟩) 1 1) (fun u_ => by kernel_rfl)) ?_
              rintro _ w35 ⟨b35, h35, rfl, l35, G35, hb35, L35⟩
              have r36 : RS h35 valE (some ⟨b35, 0, none⟩) [(Val.mk 1 gone (ByteArray.mk #[]))] := RS.blk hb35 (by kernel_rfl)
              refine WL.call (by kernel_rfl) rfl (by kernel_rfl) (by kernel_rfl) (assertA_yes G35 (MemA.mono (l34.trans l35) o_mem26) (T.mono (((((l1.trans l14).trans l16).trans l26).trans l34).trans l35)) (t := (ByteArray.mk #[116])) (a := (some ⟨b35, 0, none⟩)) (xs := ([(Val.mk 1 gone (ByteArray.mk #[]))])) (c := 1) (r36.mono (PH.le_refl _)) (fok1 _ (by decide) (by omega) (by omega)) (id := gone) (lookA_mem o_mem26.ok.keys (full_mem (by omega) (by omega)))) (Ret.elim ?_)
              rintro w37 h37 _ l37 G37 rfl
              refine WL.q (.tuple #[(.int .i64 gone), (.bool false), (.int .i64 0)]) (by kernel_rfl) rfl (by kernel_rfl) (by kernel_rfl) ?_
              refine WL.q (.int .i64 gone) (by kernel_rfl) rfl (by kernel_rfl) (by kernel_rfl) ?_
              refine WL.q (.bool false) (by kernel_rfl) rfl (by kernel_rfl) (by kernel_rfl) ?_
              refine WL.q (.int .i64 0) (by kernel_rfl) rfl (by kernel_rfl) (by kernel_rfl) ?_
              refine WL.q (.int .i64 gone) (by kernel_rfl) rfl (by kernel_rfl) (by kernel_rfl) ?_
              refine WL.q (.bool false) (by kernel_rfl) rfl (by kernel_rfl) (by kernel_rfl) ?_
              refine WL.q (.int .i64 0) (by kernel_rfl) rfl (by kernel_rfl) (by kernel_rfl) ?_
              refine WL.nil ?_
              refine EX.then_code ?_
              refine CW.seq ?_
              refine CW.region ?_
              refine WL.q (.pointer (some ⟨p14, 0, none⟩)) (by kernel_rfl) rfl (by kernel_rfl) (by kernel_rfl) ?_
              refine WL.q (.int .i64 gone) (by kernel_rfl) rfl (by kernel_rfl) (by kernel_rfl) ?_
              have hgm := full_mem (k := 1000) (n := gone) (by omega) (by omega)
              have hgl := len_filter' o_mem26.ok.up hgm
              rw [fullD_len] at hgl
              refine WL.call (by kernel_rfl) rfl (by kernel_rfl) (by kernel_rfl) (retractA G37 (MemA.mono ((l34.trans l35).trans l37) o_mem26) (T.mono ((((((l1.trans l14).trans l16).trans l26).trans l34).trans l35).trans l37)) gone) (RetM.elim ?_)
              rintro w38 h38 M38 _ l38 G38 ⟨rfl, A38⟩
              refine WL.know 97 (.bool true) (x := (.bool ((fullD 1000).any fun (d : Dat) => d.1 == gone))) (by kernel_rfl) (congrArg Value.bool (by exact any_mem' hgm)) ?_
              refine WL.q (.bool true) (by kernel_rfl) rfl (by kernel_rfl) (by kernel_rfl) ?_
              refine WL.nil ?_
              refine EX.then_code ?_
              refine CW.seq ?_
              refine CW.region ?_
              refine WL.q (.pointer (some ⟨p14, 0, none⟩)) (by kernel_rfl) rfl (by kernel_rfl) (by kernel_rfl) ?_
              refine WL.call (by kernel_rfl) rfl (by kernel_rfl) (by kernel_rfl) (int_spec G38 0) (Ret.elim ?_)
              rintro w39 h39 _ l39 G39 rfl
              refine WL.ex (by kernel_rfl) rfl (by kernel_rfl) (q_newF (ob := (.cells #[(.int .i64 1), (.int .i64 0), (.string (ByteArray.mk #[]))] 29 (0, 0))) G39 (fun b_ => .slice (some ⟨b_, 0, none⟩) 1 1) (fun u_ => by kernel_rfl)) ?_
              rintro _ w40 ⟨b40, h40, rfl, l40, G40, hb40, L40⟩
              have r41 : RS h40 valE (some ⟨b40, 0, none⟩) [(Val.mk 1 0 (ByteArray.mk #[]))] := RS.blk hb40 (by kernel_rfl)
              refine WL.call (by kernel_rfl) rfl (by kernel_rfl) (by kernel_rfl) (assertA_new G40 (MemA.mono (l39.trans l40) A38) (T.mono (((((((((l1.trans l14).trans l16).trans l26).trans l34).trans l35).trans l37).trans l38).trans l39).trans l40)) (t := (ByteArray.mk #[116])) (a := (some ⟨b40, 0, none⟩)) (xs := ([(Val.mk 1 0 (ByteArray.mk #[]))])) (c := 1) (r41.mono (PH.le_refl _)) (fok1 _ (by decide) (by omega) (by omega)) (filter_none_mem (full_none (k := 1000) (n := 0) (by omega))) (by omega) (by decide)) (RetM.elim ?_)
              rintro w42 h42 M42 _ l42 G42 ⟨rfl, A42⟩
              refine WL.q (.tuple #[(.int .i64 1001), (.bool true), (.int .i64 0)]) (by kernel_rfl) rfl (by kernel_rfl) (by kernel_rfl) ?_
              refine WL.q (.int .i64 1001) (by kernel_rfl) rfl (by kernel_rfl) (by kernel_rfl) ?_
              refine WL.q (.bool true) (by kernel_rfl) rfl (by kernel_rfl) (by kernel_rfl) ?_
              refine WL.q (.int .i64 0) (by kernel_rfl) rfl (by kernel_rfl) (by kernel_rfl) ?_
              refine WL.q (.int .i64 1001) (by kernel_rfl) rfl (by kernel_rfl) (by kernel_rfl) ?_
              refine WL.q (.bool true) (by kernel_rfl) rfl (by kernel_rfl) (by kernel_rfl) ?_
              refine WL.q (.int .i64 0) (by kernel_rfl) rfl (by kernel_rfl) (by kernel_rfl) ?_
              refine WL.nil ?_
              refine EX.then_code ?_
              refine CW.seq ?_
              refine CW.region ?_
              refine WL.q (.int .i64 gone) (by kernel_rfl) rfl (by kernel_rfl) (by kernel_rfl) ?_
              refine WL.q (.int .i64 gone) (by kernel_rfl) rfl (by kernel_rfl) (by kernel_rfl) ?_
              refine WL.q (.bool true) (by kernel_rfl) rfl (by kernel_rfl) (q_bool (x := ((gone : Int) == gone)) (by kernel_rfl) (beq_self_eq_true _)) ?_
              refine WL.q (.bool true) (by kernel_rfl) rfl (by kernel_rfl) (by kernel_rfl) ?_
              refine WL.q (.bool false) (by kernel_rfl) rfl (by kernel_rfl) (by kernel_rfl) ?_
              refine WL.q (.bool true) (by kernel_rfl) rfl (by kernel_rfl) (by kernel_rfl) ?_
              refine WL.q (.bool true) (by kernel_rfl) rfl (by kernel_rfl) (by kernel_rfl) ?_
              refine WL.q (.bool true) (by kernel_rfl) rfl (by kernel_rfl) (by kernel_rfl) ?_
              refine WL.q (.int .i64 0) (by kernel_rfl) rfl (by kernel_rfl) (by kernel_rfl) ?_
              refine WL.q (.bool true) (by kernel_rfl) rfl (by kernel_rfl) (by kernel_rfl) ?_
              refine WL.q (.bool true) (by kernel_rfl) rfl (by kernel_rfl) (by kernel_rfl) ?_
              refine WL.q (.bool true) (by kernel_rfl) rfl (by kernel_rfl) (by kernel_rfl) ?_
              refine WL.q (.bool true) (by kernel_rfl) rfl (by kernel_rfl) (by kernel_rfl) ?_
              refine WL.q (.bool true) (by kernel_rfl) rfl (by kernel_rfl) (by kernel_rfl) ?_
              refine WL.q (.bool true) (by kernel_rfl) rfl (by kernel_rfl) (by kernel_rfl) ?_
              refine WL.q (.int .i64 1001) (by kernel_rfl) rfl (by kernel_rfl) (by kernel_rfl) ?_
              refine WL.q (.bool true) (by kernel_rfl) rfl (by kernel_rfl) (by kernel_rfl) ?_
              refine WL.q (.bool true) (by kernel_rfl) rfl (by kernel_rfl) (by kernel_rfl) ?_
              refine WL.q (.bool true) (by kernel_rfl) rfl (by kernel_rfl) (by kernel_rfl) ?_
              refine WL.q (.bool true) (by kernel_rfl) rfl (by kernel_rfl) (by kernel_rfl) ?_
              refine WL.q (.bool true) (by kernel_rfl) rfl (by kernel_rfl) (by kernel_rfl) ?_
              refine WL.q (.bool true) (by kernel_rfl) rfl (by kernel_rfl) (by kernel_rfl) ?_
              refine WL.q (.int .i64 0) (by kernel_rfl) rfl (by kernel_rfl) (by kernel_rfl) ?_
              refine WL.q (.bool true) (by kernel_rfl) rfl (by kernel_rfl) (by kernel_rfl) ?_
              refine WL.q (.bool true) (by kernel_rfl) rfl (by kernel_rfl) (by kernel_rfl) ?_
              refine WL.q (.bool true) (by kernel_rfl) rfl (by kernel_rfl) (by kernel_rfl) ?_
              refine WL.q (.pointer (some ⟨p14, 0, none⟩)) (by kernel_rfl) rfl (by kernel_rfl) (by kernel_rfl) ?_
              refine WL.call (by kernel_rfl) rfl (by kernel_rfl) (by kernel_rfl) (lenA G42 A42 (PH.le_refl _)) (Ret.elim ?_)
              rintro w43 h43 _ l43 G43 rfl
              refine WL.know 133 (.int .i64 1000) (x := (.int .i64 (((((fullD 1000).filter fun (d : Dat) => d.1 ≠ gone) ++ [(1001, (ByteArray.mk #[116]), [(Val.mk 1 0 (ByteArray.mk #[]))])]).length : Nat) : Int))) (by kernel_rfl) (congrArg (Value.int .i64) (by simp only [List.length_append, List.length_cons, List.length_nil]; omega)) ?_
              refine WL.q (.bool true) (by kernel_rfl) rfl (by kernel_rfl) (by kernel_rfl) ?_
              refine WL.q (.bool true) (by kernel_rfl) rfl (by kernel_rfl) (by kernel_rfl) ?_
              refine WL.q (.bool true) (by kernel_rfl) rfl (by kernel_rfl) (by kernel_rfl) ?_
              refine WL.nil ?_
              refine EX.then_code ?_
              refine CW.ret ?_
              refine EX.ret1 (v := (.bool true)) rfl (by kernel_rfl) ?_
              exact Ret.mk (((((((((((l1.trans l14).trans l16).trans l26).trans l34).trans l35).trans l37).trans l38).trans l39).trans l40).trans l42).trans l43) (G43.drop (Ly.le (Ly.memA h42 p14 (((fullD 1000).filter fun (d : Dat) => d.1 ≠ gone) ++ [(1001, (ByteArray.mk #[116]), [(Val.mk 1 0 (ByteArray.mk #[]))])]) 1002) A42)) rfl
end Go.Proofs
