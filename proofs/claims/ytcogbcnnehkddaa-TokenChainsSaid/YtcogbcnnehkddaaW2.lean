import Derived.Test.YtcogbcnnehkddaaW1
namespace Go.Proofs
open Go Go.Wk
theorem cut_spec {K : Key} {w : World} {h M : PH} (G : Wld K w h M) {al ag : Option Addr} {l : List Tok} {gone : List Int} {cl cg : Nat} (Hl : RS h tokE al l) (Hg : RS h intE ag gone) (hb : l.length ≤ 1000000) (hb2 : gone.length ≤ 1000000) :
    Calls Try.prog 9 #[.slice al l.length cl, .slice ag gone.length cg] w (Ret K h M fun h' v => ∃ a1 c1 a2 c2, v = .tuple #[.slice a1 (cutF l gone).length c1, .slice a2 (idsF l gone).length c2] ∧
      RS h' tokE a1 (cutF l gone) ∧ RS h' intE a2 (idsF l gone)) := by
  refine enter (l := [(.slice al l.length cl), (.slice ag gone.length cg)]) Try.func9 rfl Try.ntmps9 (Nat.le_of_ble_eq_true rfl) ?_
  simp only [params]
  refine CW.seq ?_
  refine CW.region ?_
  refine WL.q (.slice none 0 0) (by kernel_rfl) rfl (by kernel_rfl) (by kernel_rfl) ?_
  refine WL.q (.slice none 0 0) (by kernel_rfl) rfl (by kernel_rfl) (by kernel_rfl) ?_
  refine WL.nil ?_
  refine EX.then_code ?_
  refine CW.seq ?_
  refine CW.region ?_
  refine WL.q (.slice none 0 0) (by kernel_rfl) rfl (by kernel_rfl) (by kernel_rfl) ?_
  refine WL.nil ?_
  refine EX.then_code ?_
  refine CW.seq ?_
  refine CW.seq ?_
  refine CW.region ?_
  refine WL.q (.int .i64 0) (by kernel_rfl) rfl (by kernel_rfl) (by kernel_rfl) ?_
  refine WL.nil ?_
  refine EX.then_code ?_
  refine CW.block ?_
  refine CW.loop (β := Nat × Option Addr × Nat × Option Addr × Nat) (fun x_ => [(0, (.slice al l.length cl)), (1, (.slice x_.2.2.2.1 ((cutK l gone x_.1).2.length) x_.2.2.2.2)), (4, (.slice none 0 0)), (5, (.slice none 0 0)), (6, (.slice x_.2.1 ((cutK l gone x_.1).1.length) x_.2.2.1)), (7, (.int .i64 (x_.1 : Int)))]) (fun x_ w_ => ∃ h_ Mout_, (PH.le h h_) ∧ (Wld K w_ h_ Mout_) ∧ (Own 34 tokE M Mout_ x_.2.1 x_.2.2.1 ((cutK l gone x_.1).1)) ∧ (RS h_ intE x_.2.2.2.1 ((cutK l gone x_.1).2)) ∧ (x_.1 ≤ l.length)) (fun x_ => l.length - x_.1) ⟨0, none, 0, ag, cg⟩ ⟨(by kernel_rfl), (by kernel_rfl), (by kernel_rfl), (by kernel_rfl), (by kernel_rfl), (lk_int (x := 0) (by kernel_rfl) (by first | omega | (dsimp only; done) | (dsimp only; omega))), trivial⟩ ⟨h, M, (PH.le_refl _), G, (Own.nil 34 tokE M), Hg, (by omega)⟩ ?_
  rintro ⟨k, ao, co, aq, cq⟩ w1 ⟨h1, Mout_1, l1, G1, oout1, Hq, hk⟩
  try dsimp only at *
  have hkl := cutK_len l gone k
  refine CW.seq ?_
  refine CW.seq ?_
  refine CW.region ?_
  refine WL.q (.int .i64 (k : Int)) (by kernel_rfl) rfl (by kernel_rfl) (by kernel_rfl) ?_
  refine WL.q (.slice al l.length cl) (by kernel_rfl) rfl (by kernel_rfl) (by kernel_rfl) ?_
  refine WL.q (.int .i64 (l.length : Int)) (by kernel_rfl) rfl (by kernel_rfl) (by kernel_rfl) ?_
  refine WL.q (.bool (decide ((k : Int) < (l.length : Int)))) (by kernel_rfl) rfl (by kernel_rfl) (by kernel_rfl) ?_
  refine WL.nil ?_
  refine EX.then_code ?_
  refine CW.cond (decide ((k : Int) < (l.length : Int))) (by kernel_rfl) (by kernel_rfl) (fun c2 => ?_) (fun c2 => ?_)
  ·
    skip
    have d3 := of_decide_eq_true c2
    refine CW.skip ?_
    refine EX.then_code ?_
    refine CW.seq ?_
    refine CW.block ?_
    refine CW.seq ?_
    refine CW.region ?_
    refine WL.q (.bool false) (by kernel_rfl) rfl (by kernel_rfl) (by kernel_rfl) ?_
    refine WL.nil ?_
    refine EX.then_code ?_
    refine CW.seq ?_
    refine CW.seq ?_
    refine CW.region ?_
    refine WL.q (.int .i64 0) (by kernel_rfl) rfl (by kernel_rfl) (by kernel_rfl) ?_
    refine WL.nil ?_
    refine EX.then_code ?_
    refine CW.block ?_
    refine CW.loop (β := Nat) (fun x_ => [(0, (.slice al l.length cl)), (1, (.slice aq ((cutK l gone k).2.length) cq)), (4, (.slice none 0 0)), (5, (.slice none 0 0)), (6, (.slice ao ((cutK l gone k).1.length) co)), (7, (.int .i64 (k : Int))), (8, (.bool (goB (cutK l gone k).2 (l.getD k tokE.dflt) x_))), (9, (.int .i64 (x_ : Int)))]) (fun x_ w_ => ∃ h_ Mout_, (PH.le h1 h_) ∧ (Wld K w_ h_ Mout_) ∧ (Own 34 tokE M Mout_ ao co ((cutK l gone k).1)) ∧ (x_ ≤ (cutK l gone k).2.length)) (fun x_ => (cutK l gone k).2.length - x_) 0 ⟨(by kernel_rfl), (by kernel_rfl), (by kernel_rfl), (by kernel_rfl), (by kernel_rfl), (by kernel_rfl), (by kernel_rfl), (lk_int (x := 0) (by kernel_rfl) (by first | omega | (dsimp only; done) | (dsimp only; omega))), trivial⟩ ⟨h1, Mout_1, (PH.le_refl _), G1, oout1, (by omega)⟩ ?_
    rintro j w4 ⟨h4, Mout_4, l4, G4, oout4, hj⟩
    try dsimp only at *
    refine CW.seq ?_
    refine CW.seq ?_
    refine CW.region ?_
    refine WL.q (.int .i64 (j : Int)) (by kernel_rfl) rfl (by kernel_rfl) (by kernel_rfl) ?_
    refine WL.q (.slice aq ((cutK l gone k).2.length) cq) (by kernel_rfl) rfl (by kernel_rfl) (by kernel_rfl) ?_
    refine WL.q (.int .i64 ((cutK l gone k).2.length : Int)) (by kernel_rfl) rfl (by kernel_rfl) (by kernel_rfl) ?_
    refine WL.q (.bool (decide ((j : Int) < ((cutK l gone k).2.length : Int)))) (by kernel_rfl) rfl (by kernel_rfl) (by kernel_rfl) ?_
    refine WL.nil ?_
    refine EX.then_code ?_
    refine CW.cond (decide ((j : Int) < ((cutK l gone k).2.length : Int))) (by kernel_rfl) (by kernel_rfl) (fun c5 => ?_) (fun c5 => ?_)
    ·
      skip
      have d6 := of_decide_eq_true c5
      refine CW.skip ?_
      refine EX.then_code ?_
      refine CW.seq ?_
      refine CW.block ?_
      refine CW.draw (by kernel_rfl) [(5, fun w_ => RS (PH.all w_) intE aq ((cutK l gone k).2)), (10, fun w_ => RS (PH.all w_) tokE al l), (17, fun w_ => RS (PH.all w_) intE aq ((cutK l gone k).2)), (22, fun w_ => RS (PH.all w_) tokE al l)] ?_
      refine DW.take (T := fun _ => True) 0 (.bool (goB (cutK l gone k).2 (l.getD k tokE.dflt) j)) rfl (by kernel_rfl) rfl (by kernel_rfl) (.inl fun _ => trivial) (by kernel_rfl) (Deaf.block (Deaf.thens (Deaf.thens (Deaf.block (Deaf.thens (Deaf.block (Deaf.thens (Deaf.thens (Deaf.block (Deaf.thens (Deaf.body RetM.not_panicked))))))))))) (fun w_ _ => (by kernel_rfl)) trivial ?_
      refine DW.take (T := fun _ => True) 1 (.bool (goB (cutK l gone k).2 (l.getD k tokE.dflt) j)) rfl (by kernel_rfl) rfl (by kernel_rfl) (.inl fun _ => trivial) (by kernel_rfl) (Deaf.block (Deaf.thens (Deaf.thens (Deaf.block (Deaf.thens (Deaf.block (Deaf.thens (Deaf.thens (Deaf.block (Deaf.thens (Deaf.body RetM.not_panicked))))))))))) (fun w_ _ => (by kernel_rfl)) trivial ?_
      rcases bool_cases (goB (cutK l gone k).2 (l.getD k tokE.dflt) j) with c8 | c8
      ·
        skip
        refine DW.know 25 (.bool true) (x := .bool (goB (cutK l gone k).2 (l.getD k tokE.dflt) j)) (by kernel_rfl) (congrArg Value.bool c8) ?_
        refine DW.skip 2 rfl (by kernel_rfl) rfl (by kernel_rfl) (by kernel_rfl) (Deaf.block (Deaf.thens (Deaf.thens (Deaf.block (Deaf.thens (Deaf.block (Deaf.thens (Deaf.thens (Deaf.block (Deaf.thens (Deaf.body RetM.not_panicked))))))))))) ?_
        refine DW.skip 3 rfl (by kernel_rfl) rfl (by kernel_rfl) (by kernel_rfl) (Deaf.block (Deaf.thens (Deaf.thens (Deaf.block (Deaf.thens (Deaf.block (Deaf.thens (Deaf.thens (Deaf.block (Deaf.thens (Deaf.body RetM.not_panicked))))))))))) ?_
        refine DW.skip 4 rfl (by kernel_rfl) rfl (by kernel_rfl) (by kernel_rfl) (Deaf.block (Deaf.thens (Deaf.thens (Deaf.block (Deaf.thens (Deaf.block (Deaf.thens (Deaf.thens (Deaf.block (Deaf.thens (Deaf.body RetM.not_panicked))))))))))) ?_
        refine DW.skip 5 rfl (by kernel_rfl) rfl (by kernel_rfl) (by kernel_rfl) (Deaf.block (Deaf.thens (Deaf.thens (Deaf.block (Deaf.thens (Deaf.block (Deaf.thens (Deaf.thens (Deaf.block (Deaf.thens (Deaf.body RetM.not_panicked))))))))))) ?_
        refine DW.skip 6 rfl (by kernel_rfl) rfl (by kernel_rfl) (by kernel_rfl) (Deaf.block (Deaf.thens (Deaf.thens (Deaf.block (Deaf.thens (Deaf.block (Deaf.thens (Deaf.thens (Deaf.block (Deaf.thens (Deaf.body RetM.not_panicked))))))))))) ?_
        refine DW.skip 7 rfl (by kernel_rfl) rfl (by kernel_rfl) (by kernel_rfl) (Deaf.block (Deaf.thens (Deaf.thens (Deaf.block (Deaf.thens (Deaf.block (Deaf.thens (Deaf.thens (Deaf.block (Deaf.thens (Deaf.body RetM.not_panicked))))))))))) ?_
        refine DW.skip 8 rfl (by kernel_rfl) rfl (by kernel_rfl) (by kernel_rfl) (Deaf.block (Deaf.thens (Deaf.thens (Deaf.block (Deaf.thens (Deaf.block (Deaf.thens (Deaf.thens (Deaf.block (Deaf.thens (Deaf.body RetM.not_panicked))))))))))) ?_
        refine DW.skip 9 rfl (by kernel_rfl) rfl (by kernel_rfl) (by kernel_rfl) (Deaf.block (Deaf.thens (Deaf.thens (Deaf.block (Deaf.thens (Deaf.block (Deaf.thens (Deaf.thens (Deaf.block (Deaf.thens (Deaf.body RetM.not_panicked))))))))))) ?_
        refine DW.skip 10 rfl (by kernel_rfl) rfl (by kernel_rfl) (by kernel_rfl) (Deaf.block (Deaf.thens (Deaf.thens (Deaf.block (Deaf.thens (Deaf.block (Deaf.thens (Deaf.thens (Deaf.block (Deaf.thens (Deaf.body RetM.not_panicked))))))))))) ?_
        refine DW.skip 11 rfl (by kernel_rfl) rfl (by kernel_rfl) (by kernel_rfl) (Deaf.block (Deaf.thens (Deaf.thens (Deaf.block (Deaf.thens (Deaf.block (Deaf.thens (Deaf.thens (Deaf.block (Deaf.thens (Deaf.body RetM.not_panicked))))))))))) ?_
        refine DW.take (T := fun _ => True) 12 (.bool true) rfl (by kernel_rfl) rfl (by kernel_rfl) (.inl fun _ => trivial) (by kernel_rfl) (Deaf.block (Deaf.thens (Deaf.thens (Deaf.block (Deaf.thens (Deaf.block (Deaf.thens (Deaf.thens (Deaf.block (Deaf.thens (Deaf.body RetM.not_panicked))))))))))) (fun w_ _ => (by kernel_rfl)) trivial ?_
        refine DW.take (T := fun _ => True) 13 (.bool true) rfl (by kernel_rfl) rfl (by kernel_rfl) (.inl fun _ => trivial) (by kernel_rfl) (Deaf.block (Deaf.thens (Deaf.thens (Deaf.block (Deaf.thens (Deaf.block (Deaf.thens (Deaf.thens (Deaf.block (Deaf.thens (Deaf.body RetM.not_panicked))))))))))) (fun w_ _ => (by kernel_rfl)) trivial ?_
        refine DW.skip 14 rfl (by kernel_rfl) rfl (by kernel_rfl) (by kernel_rfl) (Deaf.block (Deaf.thens (Deaf.thens (Deaf.block (Deaf.thens (Deaf.block (Deaf.thens (Deaf.thens (Deaf.block (Deaf.thens (Deaf.body RetM.not_panicked))))))))))) ?_
        refine DW.skip 15 rfl (by kernel_rfl) rfl (by kernel_rfl) (by kernel_rfl) (Deaf.block (Deaf.thens (Deaf.thens (Deaf.block (Deaf.thens (Deaf.block (Deaf.thens (Deaf.thens (Deaf.block (Deaf.thens (Deaf.body RetM.not_panicked))))))))))) ?_
        refine DW.skip 16 rfl (by kernel_rfl) rfl (by kernel_rfl) (by kernel_rfl) (Deaf.block (Deaf.thens (Deaf.thens (Deaf.block (Deaf.thens (Deaf.block (Deaf.thens (Deaf.thens (Deaf.block (Deaf.thens (Deaf.body RetM.not_panicked))))))))))) ?_
        refine DW.skip 17 rfl (by kernel_rfl) rfl (by kernel_rfl) (by kernel_rfl) (Deaf.block (Deaf.thens (Deaf.thens (Deaf.block (Deaf.thens (Deaf.block (Deaf.thens (Deaf.thens (Deaf.block (Deaf.thens (Deaf.body RetM.not_panicked))))))))))) ?_
        refine DW.skip 18 rfl (by kernel_rfl) rfl (by kernel_rfl) (by kernel_rfl) (Deaf.block (Deaf.thens (Deaf.thens (Deaf.block (Deaf.thens (Deaf.block (Deaf.thens (Deaf.thens (Deaf.block (Deaf.thens (Deaf.body RetM.not_panicked))))))))))) ?_
        refine DW.skip 19 rfl (by kernel_rfl) rfl (by kernel_rfl) (by kernel_rfl) (Deaf.block (Deaf.thens (Deaf.thens (Deaf.block (Deaf.thens (Deaf.block (Deaf.thens (Deaf.thens (Deaf.block (Deaf.thens (Deaf.body RetM.not_panicked))))))))))) ?_
        refine DW.skip 20 rfl (by kernel_rfl) rfl (by kernel_rfl) (by kernel_rfl) (Deaf.block (Deaf.thens (Deaf.thens (Deaf.block (Deaf.thens (Deaf.block (Deaf.thens (Deaf.thens (Deaf.block (Deaf.thens (Deaf.body RetM.not_panicked))))))))))) ?_
        refine DW.skip 21 rfl (by kernel_rfl) rfl (by kernel_rfl) (by kernel_rfl) (Deaf.block (Deaf.thens (Deaf.thens (Deaf.block (Deaf.thens (Deaf.block (Deaf.thens (Deaf.thens (Deaf.block (Deaf.thens (Deaf.body RetM.not_panicked))))))))))) ?_
        refine DW.skip 22 rfl (by kernel_rfl) rfl (by kernel_rfl) (by kernel_rfl) (Deaf.block (Deaf.thens (Deaf.thens (Deaf.block (Deaf.thens (Deaf.block (Deaf.thens (Deaf.thens (Deaf.block (Deaf.thens (Deaf.body RetM.not_panicked))))))))))) ?_
        refine DW.skip 23 rfl (by kernel_rfl) rfl (by kernel_rfl) (by kernel_rfl) (Deaf.block (Deaf.thens (Deaf.thens (Deaf.block (Deaf.thens (Deaf.block (Deaf.thens (Deaf.thens (Deaf.block (Deaf.thens (Deaf.body RetM.not_panicked))))))))))) ?_
        refine DW.take (T := fun _ => True) 24 (.bool true) rfl (by kernel_rfl) rfl (by kernel_rfl) (.inl fun _ => trivial) (by kernel_rfl) (Deaf.block (Deaf.thens (Deaf.thens (Deaf.block (Deaf.thens (Deaf.block (Deaf.thens (Deaf.thens (Deaf.block (Deaf.thens (Deaf.body RetM.not_panicked))))))))))) (fun w_ _ => (by kernel_rfl)) trivial ?_
        refine DW.take (T := fun _ => True) 25 (.bool true) rfl (by kernel_rfl) rfl (by kernel_rfl) (.inl fun _ => trivial) (by kernel_rfl) (Deaf.block (Deaf.thens (Deaf.thens (Deaf.block (Deaf.thens (Deaf.block (Deaf.thens (Deaf.thens (Deaf.block (Deaf.thens (Deaf.body RetM.not_panicked))))))))))) (fun w_ _ => (by kernel_rfl)) trivial ?_
        refine DW.done (by kernel_rfl) ?_
        refine EX.in_block ?_
        refine EX.then_code ?_
        refine CW.region ?_
        refine WL.q (.int .i64 (j : Int)) (by kernel_rfl) rfl (by kernel_rfl) (by kernel_rfl) ?_
        refine WL.q (.int .i64 ((j + 1 : Nat) : Int)) (by kernel_rfl) rfl (by kernel_rfl) (q_int (x := IntKind.i64.wrap ((j : Int) + 1)) (by kernel_rfl) (wrap_to (by omega) (by omega) (by omega))) ?_
        refine WL.q (.int .i64 ((j + 1 : Nat) : Int)) (by kernel_rfl) rfl (by kernel_rfl) (by kernel_rfl) ?_
        refine WL.nil ?_
        exact EX.then_loop (j + 1) ⟨(by kernel_rfl), (by kernel_rfl), (by kernel_rfl), (by kernel_rfl), (by kernel_rfl), (by kernel_rfl), (lk_val (x := (.bool true)) (by kernel_rfl) (congrArg Value.bool (by rw [goB_succ _ _ (by omega), c8]; first | rfl | simp))), (lk_int (x := ((j + 1 : Nat) : Int)) (by kernel_rfl) (by first | omega | (dsimp only; done) | (dsimp only; omega))), trivial⟩ ⟨h4, Mout_4, l4, (G4.drew), oout4, (by omega)⟩ (by first | omega | (dsimp only; omega))
      ·
        skip
        refine DW.know 25 (.bool false) (x := .bool (goB (cutK l gone k).2 (l.getD k tokE.dflt) j)) (by kernel_rfl) (congrArg Value.bool c8) ?_
        refine DW.take (T := fun _ => True) 2 (.slice aq ((cutK l gone k).2.length) cq) rfl (by kernel_rfl) rfl (by kernel_rfl) (.inl fun _ => trivial) (by kernel_rfl) (Deaf.block (Deaf.thens (Deaf.thens (Deaf.block (Deaf.thens (Deaf.block (Deaf.thens (Deaf.thens (Deaf.block (Deaf.thens (Deaf.body RetM.not_panicked))))))))))) (fun w_ _ => (by kernel_rfl)) trivial ?_
        refine DW.take (T := fun _ => True) 3 (.int .i64 (j : Int)) rfl (by kernel_rfl) rfl (by kernel_rfl) (.inl fun _ => trivial) (by kernel_rfl) (Deaf.block (Deaf.thens (Deaf.thens (Deaf.block (Deaf.thens (Deaf.block (Deaf.thens (Deaf.thens (Deaf.block (Deaf.thens (Deaf.body RetM.not_panicked))))))))))) (fun w_ _ => (by kernel_rfl)) trivial ?_
        refine DW.take (T := fun _ => True) 4 (eptr aq (j * intE.sz)) rfl (by kernel_rfl) rfl (by kernel_rfl) (.inl fun _ => trivial) (by kernel_rfl) (Deaf.block (Deaf.thens (Deaf.thens (Deaf.block (Deaf.thens (Deaf.block (Deaf.thens (Deaf.thens (Deaf.block (Deaf.thens (Deaf.body RetM.not_panicked))))))))))) (fun w_ _ => (q_indexAddr (i := j) (E := intE) (xs := ((cutK l gone k).2)) (e := 3) (c := cq) (k := .i64) (m := ((cutK l gone k).2.length)) rfl rfl (by kernel_rfl) (by kernel_rfl) (by kernel_rfl) (Hq.mono (l4.trans (G4.drew).imm)) (by omega))) trivial ?_
        refine DW.take (T := fun w_ => RS (PH.all w_) intE aq ((cutK l gone k).2)) 5 (.int .i64 (((cutK l gone k).2).getD j intE.dflt)) rfl (by kernel_rfl) rfl (by kernel_rfl) (.inr (by simp only [List.mem_cons, true_or, or_true])) (by kernel_rfl) (Deaf.block (Deaf.thens (Deaf.thens (Deaf.block (Deaf.thens (Deaf.block (Deaf.thens (Deaf.thens (Deaf.block (Deaf.thens (Deaf.body RetM.not_panicked))))))))))) (fun w_ T_ => (q_load_e (i := j) (k := 0) (E := intE) rfl (by kernel_rfl) (by kernel_rfl) T_ (by omega) (by decide) (by kernel_rfl))) (Hq.mono (l4.trans (G4.drew).imm)) ?_
        refine DW.take (T := fun _ => True) 6 (.slice al l.length cl) rfl (by kernel_rfl) rfl (by kernel_rfl) (.inl fun _ => trivial) (by kernel_rfl) (Deaf.block (Deaf.thens (Deaf.thens (Deaf.block (Deaf.thens (Deaf.block (Deaf.thens (Deaf.thens (Deaf.block (Deaf.thens (Deaf.body RetM.not_panicked))))))))))) (fun w_ _ => (by kernel_rfl)) trivial ?_
        refine DW.take (T := fun _ => True) 7 (.int .i64 (k : Int)) rfl (by kernel_rfl) rfl (by kernel_rfl) (.inl fun _ => trivial) (by kernel_rfl) (Deaf.block (Deaf.thens (Deaf.thens (Deaf.block (Deaf.thens (Deaf.block (Deaf.thens (Deaf.thens (Deaf.block (Deaf.thens (Deaf.body RetM.not_panicked))))))))))) (fun w_ _ => (by kernel_rfl)) trivial ?_
        refine DW.take (T := fun _ => True) 8 (eptr al (k * tokE.sz)) rfl (by kernel_rfl) rfl (by kernel_rfl) (.inl fun _ => trivial) (by kernel_rfl) (Deaf.block (Deaf.thens (Deaf.thens (Deaf.block (Deaf.thens (Deaf.block (Deaf.thens (Deaf.thens (Deaf.block (Deaf.thens (Deaf.body RetM.not_panicked))))))))))) (fun w_ _ => (q_indexAddr (i := k) (E := tokE) (xs := l) (e := 34) (c := cl) (k := .i64) (m := l.length) rfl rfl (by kernel_rfl) (by kernel_rfl) (by kernel_rfl) (Hl.mono ((l1.trans l4).trans (G4.drew).imm)) (by omega))) trivial ?_
        refine DW.take (T := fun _ => True) 9 (eptr al (k * tokE.sz + 0)) rfl (by kernel_rfl) rfl (by kernel_rfl) (.inl fun _ => trivial) (by kernel_rfl) (Deaf.block (Deaf.thens (Deaf.thens (Deaf.block (Deaf.thens (Deaf.block (Deaf.thens (Deaf.thens (Deaf.block (Deaf.thens (Deaf.body RetM.not_panicked))))))))))) (fun w_ _ => (q_fieldAddr_e (i := k) (k := k * tokE.sz) (off := 0) rfl (by kernel_rfl) (by kernel_rfl) (Hl.mono ((l1.trans l4).trans (G4.drew).imm)) (by omega))) trivial ?_
        refine DW.take (T := fun w_ => RS (PH.all w_) tokE al l) 10 (.int .i64 (((l.getD k tokE.dflt)).id)) rfl (by kernel_rfl) rfl (by kernel_rfl) (.inr (by simp only [List.mem_cons, true_or, or_true])) (by kernel_rfl) (Deaf.block (Deaf.thens (Deaf.thens (Deaf.block (Deaf.thens (Deaf.block (Deaf.thens (Deaf.thens (Deaf.block (Deaf.thens (Deaf.body RetM.not_panicked))))))))))) (fun w_ T_ => (q_load_e (i := k) (k := 0) (E := tokE) rfl (by kernel_rfl) (by kernel_rfl) T_ (by omega) (by decide) (by kernel_rfl))) (Hl.mono ((l1.trans l4).trans (G4.drew).imm)) ?_
        refine DW.take (T := fun _ => True) 11 (.bool (((((cutK l gone k).2).getD j intE.dflt) : Int) == ((l.getD k tokE.dflt)).id)) rfl (by kernel_rfl) rfl (by kernel_rfl) (.inl fun _ => trivial) (by kernel_rfl) (Deaf.block (Deaf.thens (Deaf.thens (Deaf.block (Deaf.thens (Deaf.block (Deaf.thens (Deaf.thens (Deaf.block (Deaf.thens (Deaf.body RetM.not_panicked))))))))))) (fun w_ _ => (by kernel_rfl)) trivial ?_
        refine DW.take (T := fun _ => True) 12 (.bool (((((cutK l gone k).2).getD j intE.dflt) : Int) == ((l.getD k tokE.dflt)).id)) rfl (by kernel_rfl) rfl (by kernel_rfl) (.inl fun _ => trivial) (by kernel_rfl) (Deaf.block (Deaf.thens (Deaf.thens (Deaf.block (Deaf.thens (Deaf.block (Deaf.thens (Deaf.thens (Deaf.block (Deaf.thens (Deaf.body RetM.not_panicked))))))))))) (fun w_ _ => (by kernel_rfl)) trivial ?_
        refine DW.take (T := fun _ => True) 13 (.bool (((((cutK l gone k).2).getD j intE.dflt) : Int) == ((l.getD k tokE.dflt)).id)) rfl (by kernel_rfl) rfl (by kernel_rfl) (.inl fun _ => trivial) (by kernel_rfl) (Deaf.block (Deaf.thens (Deaf.thens (Deaf.block (Deaf.thens (Deaf.block (Deaf.thens (Deaf.thens (Deaf.block (Deaf.thens (Deaf.body RetM.not_panicked))))))))))) (fun w_ _ => (by kernel_rfl)) trivial ?_
        rcases bool_cases (((((cutK l gone k).2).getD j intE.dflt) : Int) == ((l.getD k tokE.dflt)).id) with c11 | c11
        ·
          skip
          have d12 := eq_of_beq c11
          refine DW.know 37 (.bool true) (x := .bool (((((cutK l gone k).2).getD j intE.dflt) : Int) == ((l.getD k tokE.dflt)).id)) (by kernel_rfl) (congrArg Value.bool c11) ?_
          refine DW.skip 14 rfl (by kernel_rfl) rfl (by kernel_rfl) (by kernel_rfl) (Deaf.block (Deaf.thens (Deaf.thens (Deaf.block (Deaf.thens (Deaf.block (Deaf.thens (Deaf.thens (Deaf.block (Deaf.thens (Deaf.body RetM.not_panicked))))))))))) ?_
          refine DW.skip 15 rfl (by kernel_rfl) rfl (by kernel_rfl) (by kernel_rfl) (Deaf.block (Deaf.thens (Deaf.thens (Deaf.block (Deaf.thens (Deaf.block (Deaf.thens (Deaf.thens (Deaf.block (Deaf.thens (Deaf.body RetM.not_panicked))))))))))) ?_
          refine DW.skip 16 rfl (by kernel_rfl) rfl (by kernel_rfl) (by kernel_rfl) (Deaf.block (Deaf.thens (Deaf.thens (Deaf.block (Deaf.thens (Deaf.block (Deaf.thens (Deaf.thens (Deaf.block (Deaf.thens (Deaf.body RetM.not_panicked))))))))))) ?_
          refine DW.skip 17 rfl (by kernel_rfl) rfl (by kernel_rfl) (by kernel_rfl) (Deaf.block (Deaf.thens (Deaf.thens (Deaf.block (Deaf.thens (Deaf.block (Deaf.thens (Deaf.thens (Deaf.block (Deaf.thens (Deaf.body RetM.not_panicked))))))))))) ?_
          refine DW.skip 18 rfl (by kernel_rfl) rfl (by kernel_rfl) (by kernel_rfl) (Deaf.block (Deaf.thens (Deaf.thens (Deaf.block (Deaf.thens (Deaf.block (Deaf.thens (Deaf.thens (Deaf.block (Deaf.thens (Deaf.body RetM.not_panicked))))))))))) ?_
          refine DW.skip 19 rfl (by kernel_rfl) rfl (by kernel_rfl) (by kernel_rfl) (Deaf.block (Deaf.thens (Deaf.thens (Deaf.block (Deaf.thens (Deaf.block (Deaf.thens (Deaf.thens (Deaf.block (Deaf.thens (Deaf.body RetM.not_panicked))))))))))) ?_
          refine DW.skip 20 rfl (by kernel_rfl) rfl (by kernel_rfl) (by kernel_rfl) (Deaf.block (Deaf.thens (Deaf.thens (Deaf.block (Deaf.thens (Deaf.block (Deaf.thens (Deaf.thens (Deaf.block (Deaf.thens (Deaf.body RetM.not_panicked))))))))))) ?_
          refine DW.skip 21 rfl (by kernel_rfl) rfl (by kernel_rfl) (by kernel_rfl) (Deaf.block (Deaf.thens (Deaf.thens (Deaf.block (Deaf.thens (Deaf.block (Deaf.thens (Deaf.thens (Deaf.block (Deaf.thens (Deaf.body RetM.not_panicked))))))))))) ?_
          refine DW.skip 22 rfl (by kernel_rfl) rfl (by kernel_rfl) (by kernel_rfl) (Deaf.block (Deaf.thens (Deaf.thens (Deaf.block (Deaf.thens (Deaf.block (Deaf.thens (Deaf.thens (Deaf.block (Deaf.thens (Deaf.body RetM.not_panicked))))))))))) ?_
          refine DW.skip 23 rfl (by kernel_rfl) rfl (by kernel_rfl) (by kernel_rfl) (Deaf.block (Deaf.thens (Deaf.thens (Deaf.block (Deaf.thens (Deaf.block (Deaf.thens (Deaf.thens (Deaf.block (Deaf.thens (Deaf.body RetM.not_panicked))))))))))) ?_
          refine DW.take (T := fun _ => True) 24 (.bool true) rfl (by kernel_rfl) rfl (by kernel_rfl) (.inl fun _ => trivial) (by kernel_rfl) (Deaf.block (Deaf.thens (Deaf.thens (Deaf.block (Deaf.thens (Deaf.block (Deaf.thens (Deaf.thens (Deaf.block (Deaf.thens (Deaf.body RetM.not_panicked))))))))))) (fun w_ _ => (by kernel_rfl)) trivial ?_
          refine DW.take (T := fun _ => True) 25 (.bool true) rfl (by kernel_rfl) rfl (by kernel_rfl) (.inl fun _ => trivial) (by kernel_rfl) (Deaf.block (Deaf.thens (Deaf.thens (Deaf.block (Deaf.thens (Deaf.block (Deaf.thens (Deaf.thens (Deaf.block (Deaf.thens (Deaf.body RetM.not_panicked))))))))))) (fun w_ _ => (by kernel_rfl)) trivial ?_
          refine DW.done (by kernel_rfl) ?_
          refine EX.in_block ?_
          refine EX.then_code ?_
          refine CW.region ?_
          refine WL.q (.int .i64 (j : Int)) (by kernel_rfl) rfl (by kernel_rfl) (by kernel_rfl) ?_
          refine WL.q (.int .i64 ((j + 1 : Nat) : Int)) (by kernel_rfl) rfl (by kernel_rfl) (q_int (x := IntKind.i64.wrap ((j : Int) + 1)) (by kernel_rfl) (wrap_to (by omega) (by omega) (by omega))) ?_
          refine WL.q (.int .i64 ((j + 1 : Nat) : Int)) (by kernel_rfl) rfl (by kernel_rfl) (by kernel_rfl) ?_
          refine WL.nil ?_
          exact EX.then_loop (j + 1) ⟨(by kernel_rfl), (by kernel_rfl), (by kernel_rfl), (by kernel_rfl), (by kernel_rfl), (by kernel_rfl), (lk_val (x := (.bool true)) (by kernel_rfl) (congrArg Value.bool (by rw [goB_succ _ _ (by omega), c8, c11]; first | rfl | simp))), (lk_int (x := ((j + 1 : Nat) : Int)) (by kernel_rfl) (by first | omega | (dsimp only; done) | (dsimp only; omega))), trivial⟩ ⟨h4, Mout_4, l4, (G4.drew), oout4, (by omega)⟩ (by first | omega | (dsimp only; omega))
        ·
          skip
          have d13 := ne_of_beq_false c11
          refine DW.know 37 (.bool false) (x := .bool (((((cutK l gone k).2).getD j intE.dflt) : Int) == ((l.getD k tokE.dflt)).id)) (by kernel_rfl) (congrArg Value.bool c11) ?_
          refine DW.take (T := fun _ => True) 14 (.slice aq ((cutK l gone k).2.length) cq) rfl (by kernel_rfl) rfl (by kernel_rfl) (.inl fun _ => trivial) (by kernel_rfl) (Deaf.block (Deaf.thens (Deaf.thens (Deaf.block (Deaf.thens (Deaf.block (Deaf.thens (Deaf.thens (Deaf.block (Deaf.thens (Deaf.body RetM.not_panicked))))))))))) (fun w_ _ => (by kernel_rfl)) trivial ?_
          refine DW.take (T := fun _ => True) 15 (.int .i64 (j : Int)) rfl (by kernel_rfl) rfl (by kernel_rfl) (.inl fun _ => trivial) (by kernel_rfl) (Deaf.block (Deaf.thens (Deaf.thens (Deaf.block (Deaf.thens (Deaf.block (Deaf.thens (Deaf.thens (Deaf.block (Deaf.thens (Deaf.body RetM.not_panicked))))))))))) (fun w_ _ => (by kernel_rfl)) trivial ?_
          refine DW.take (T := fun _ => True) 16 (eptr aq (j * intE.sz)) rfl (by kernel_rfl) rfl (by kernel_rfl) (.inl fun _ => trivial) (by kernel_rfl) (Deaf.block (Deaf.thens (Deaf.thens (Deaf.block (Deaf.thens (Deaf.block (Deaf.thens (Deaf.thens (Deaf.block (Deaf.thens (Deaf.body RetM.not_panicked))))))))))) (fun w_ _ => (q_indexAddr (i := j) (E := intE) (xs := ((cutK l gone k).2)) (e := 3) (c := cq) (k := .i64) (m := ((cutK l gone k).2.length)) rfl rfl (by kernel_rfl) (by kernel_rfl) (by kernel_rfl) (Hq.mono (l4.trans (G4.drew).imm)) (by omega))) trivial ?_
          refine DW.take (T := fun w_ => RS (PH.all w_) intE aq ((cutK l gone k).2)) 17 (.int .i64 (((cutK l gone k).2).getD j intE.dflt)) rfl (by kernel_rfl) rfl (by kernel_rfl) (.inr (by simp only [List.mem_cons, true_or, or_true])) (by kernel_rfl) (Deaf.block (Deaf.thens (Deaf.thens (Deaf.block (Deaf.thens (Deaf.block (Deaf.thens (Deaf.thens (Deaf.block (Deaf.thens (Deaf.body RetM.not_panicked))))))))))) (fun w_ T_ => (q_load_e (i := j) (k := 0) (E := intE) rfl (by kernel_rfl) (by kernel_rfl) T_ (by omega) (by decide) (by kernel_rfl))) (Hq.mono (l4.trans (G4.drew).imm)) ?_
          refine DW.take (T := fun _ => True) 18 (.slice al l.length cl) rfl (by kernel_rfl) rfl (by kernel_rfl) (.inl fun _ => trivial) (by kernel_rfl) (Deaf.block (Deaf.thens (Deaf.thens (Deaf.block (Deaf.thens (Deaf.block (Deaf.thens (Deaf.thens (Deaf.block (Deaf.thens (Deaf.body RetM.not_panicked))))))))))) (fun w_ _ => (by kernel_rfl)) trivial ?_
          refine DW.take (T := fun _ => True) 19 (.int .i64 (k : Int)) rfl (by kernel_rfl) rfl (by kernel_rfl) (.inl fun _ => trivial) (by kernel_rfl) (Deaf.block (Deaf.thens (Deaf.thens (Deaf.block (Deaf.thens (Deaf.block (Deaf.thens (Deaf.thens (Deaf.block (Deaf.thens (Deaf.body RetM.not_panicked))))))))))) (fun w_ _ => (by kernel_rfl)) trivial ?_
          refine DW.take (T := fun _ => True) 20 (eptr al (k * tokE.sz)) rfl (by kernel_rfl) rfl (by kernel_rfl) (.inl fun _ => trivial) (by kernel_rfl) (Deaf.block (Deaf.thens (Deaf.thens (Deaf.block (Deaf.thens (Deaf.block (Deaf.thens (Deaf.thens (Deaf.block (Deaf.thens (Deaf.body RetM.not_panicked))))))))))) (fun w_ _ => (q_indexAddr (i := k) (E := tokE) (xs := l) (e := 34) (c := cl) (k := .i64) (m := l.length) rfl rfl (by kernel_rfl) (by kernel_rfl) (by kernel_rfl) (Hl.mono ((l1.trans l4).trans (G4.drew).imm)) (by omega))) trivial ?_
          refine DW.take (T := fun _ => True) 21 (eptr al (k * tokE.sz + 1)) rfl (by kernel_rfl) rfl (by kernel_rfl) (.inl fun _ => trivial) (by kernel_rfl) (Deaf.block (Deaf.thens (Deaf.thens (Deaf.block (Deaf.thens (Deaf.block (Deaf.thens (Deaf.thens (Deaf.block (Deaf.thens (Deaf.body RetM.not_panicked))))))))))) (fun w_ _ => (q_fieldAddr_e (i := k) (k := k * tokE.sz) (off := 1) rfl (by kernel_rfl) (by kernel_rfl) (Hl.mono ((l1.trans l4).trans (G4.drew).imm)) (by omega))) trivial ?_
          refine DW.take (T := fun w_ => RS (PH.all w_) tokE al l) 22 (.int .i64 (((l.getD k tokE.dflt)).parent)) rfl (by kernel_rfl) rfl (by kernel_rfl) (.inr (by simp only [List.mem_cons, true_or, or_true])) (by kernel_rfl) (Deaf.block (Deaf.thens (Deaf.thens (Deaf.block (Deaf.thens (Deaf.block (Deaf.thens (Deaf.thens (Deaf.block (Deaf.thens (Deaf.body RetM.not_panicked))))))))))) (fun w_ T_ => (q_load_e (i := k) (k := 1) (E := tokE) rfl (by kernel_rfl) (by kernel_rfl) T_ (by omega) (by decide) (by kernel_rfl))) (Hl.mono ((l1.trans l4).trans (G4.drew).imm)) ?_
          refine DW.take (T := fun _ => True) 23 (.bool (((((cutK l gone k).2).getD j intE.dflt) : Int) == ((l.getD k tokE.dflt)).parent)) rfl (by kernel_rfl) rfl (by kernel_rfl) (.inl fun _ => trivial) (by kernel_rfl) (Deaf.block (Deaf.thens (Deaf.thens (Deaf.block (Deaf.thens (Deaf.block (Deaf.thens (Deaf.thens (Deaf.block (Deaf.thens (Deaf.body RetM.not_panicked))))))))))) (fun w_ _ => (by kernel_rfl)) trivial ?_
          refine DW.take (T := fun _ => True) 24 (.bool (((((cutK l gone k).2).getD j intE.dflt) : Int) == ((l.getD k tokE.dflt)).parent)) rfl (by kernel_rfl) rfl (by kernel_rfl) (.inl fun _ => trivial) (by kernel_rfl) (Deaf.block (Deaf.thens (Deaf.thens (Deaf.block (Deaf.thens (Deaf.block (Deaf.thens (Deaf.thens (Deaf.block (Deaf.thens (Deaf.body RetM.not_panicked))))))))))) (fun w_ _ => (by kernel_rfl)) trivial ?_
          refine DW.take (T := fun _ => True) 25 (.bool (((((cutK l gone k).2).getD j intE.dflt) : Int) == ((l.getD k tokE.dflt)).parent)) rfl (by kernel_rfl) rfl (by kernel_rfl) (.inl fun _ => trivial) (by kernel_rfl) (Deaf.block (Deaf.thens (Deaf.thens (Deaf.block (Deaf.thens (Deaf.block (Deaf.thens (Deaf.thens (Deaf.block (Deaf.thens (Deaf.body RetM.not_panicked))))))))))) (fun w_ _ => (by kernel_rfl)) trivial ?_
          refine DW.done (by kernel_rfl) ?_
          refine EX.in_block ?_
          refine EX.then_code ?_
          refine CW.region ?_
          refine WL.q (.int .i64 (j : Int)) (by kernel_rfl) rfl (by kernel_rfl) (by kernel_rfl) ?_
          refine WL.q (.int .i64 ((j + 1 : Nat) : Int)) (by kernel_rfl) rfl (by kernel_rfl) (q_int (x := IntKind.i64.wrap ((j : Int) + 1)) (by kernel_rfl) (wrap_to (by omega) (by omega) (by omega))) ?_
          refine WL.q (.int .i64 ((j + 1 : Nat) : Int)) (by kernel_rfl) rfl (by kernel_rfl) (by kernel_rfl) ?_
          refine WL.nil ?_
          exact EX.then_loop (j + 1) ⟨(by kernel_rfl), (by kernel_rfl), (by kernel_rfl), (by kernel_rfl), (by kernel_rfl), (by kernel_rfl), (lk_val (x := (.bool (((((cutK l gone k).2).getD j intE.dflt) : Int) == ((l.getD k tokE.dflt)).parent))) (by kernel_rfl) (congrArg Value.bool (by rw [goB_succ _ _ (by omega), c8, c11]; first | rfl | simp))), (lk_int (x := ((j + 1 : Nat) : Int)) (by kernel_rfl) (by first | omega | (dsimp only; done) | (dsimp only; omega))), trivial⟩ ⟨h4, Mout_4, l4, (G4.drew), oout4, (by omega)⟩ (by first | omega | (dsimp only; omega))
    ·
      skip
      have d14 := of_decide_eq_false c5
      refine CW.exit ?_
      refine EX.exit_then ?_
      refine EX.exit_then ?_
      refine EX.exit_here ?_
      refine EX.then_code ?_
      refine CW.seq ?_
      refine CW.seq ?_
      refine CW.region ?_
      refine WL.q (.bool (goB (cutK l gone k).2 (l.getD k tokE.dflt) j)) (by kernel_rfl) rfl (by kernel_rfl) (by kernel_rfl) ?_
      refine WL.q (.bool (!(goB (cutK l gone k).2 (l.getD k tokE.dflt) j))) (by kernel_rfl) rfl (by kernel_rfl) (by kernel_rfl) ?_
      refine WL.nil ?_
      refine EX.then_code ?_
      refine CW.cond (!(goB (cutK l gone k).2 (l.getD k tokE.dflt) j)) (by kernel_rfl) (by kernel_rfl) (fun c15 => ?_) (fun c15 => ?_)
      ·
        skip
        have d16 := not_true c15
        refine CW.seq ?_
        refine CW.region ?_
        refine WL.q (.slice ao ((cutK l gone k).1.length) co) (by kernel_rfl) rfl (by kernel_rfl) (by kernel_rfl) ?_
        refine WL.q (.slice al l.length cl) (by kernel_rfl) rfl (by kernel_rfl) (by kernel_rfl) ?_
        refine WL.q (.int .i64 (k : Int)) (by kernel_rfl) rfl (by kernel_rfl) (by kernel_rfl) ?_
        refine WL.q (eptr al (k * tokE.sz)) (by kernel_rfl) rfl (by kernel_rfl) (q_indexAddr (i := k) (E := tokE) (xs := l) (e := 34) (c := cl) (k := .i64) (m := l.length) rfl rfl (by kernel_rfl) (by kernel_rfl) (by kernel_rfl) (Hl.mono ((l1.trans l4).trans G4.imm)) (by omega)) ?_
        refine WL.q (.agg #[(.int .i64 (((l.getD k tokE.dflt)).id)), (.int .i64 (((l.getD k tokE.dflt)).parent)), (.int .i64 (((l.getD k tokE.dflt)).fact))]) (by kernel_rfl) rfl (by kernel_rfl) (q_val (q_loadAgg_e (i := k) (E := tokE) rfl (by kernel_rfl) (by kernel_rfl) (Hl.mono ((l1.trans l4).trans G4.imm)) (by omega)) (by kernel_rfl)) ?_
        refine WL.new (ob := (.cells #[(.int .i64 (((l.getD k tokE.dflt)).id)), (.int .i64 (((l.getD k tokE.dflt)).parent)), (.int .i64 (((l.getD k tokE.dflt)).fact))] 34)) G4 (by kernel_rfl) rfl (by kernel_rfl) (fun b_ => .slice (some ⟨b_, 0, none⟩) 1 1) (fun u_ => by kernel_rfl) ?_
        intro b18 w18 n18 i18 G18
        refine WL.append (e := 34) (bytes := 24) (cap := co) (c2 := 1) (M0 := M) (xs := ((cutK l gone k).1)) (ys := ([(Tok.mk (((l.getD k tokE.dflt)).id) (((l.getD k tokE.dflt)).parent) (((l.getD k tokE.dflt)).fact))])) G18 (PH.le_set _ n18) oout4 (PH.le_refl _) (RS.blk (E := tokE) (xs := [(Tok.mk (((l.getD k tokE.dflt)).id) (((l.getD k tokE.dflt)).parent) (((l.getD k tokE.dflt)).fact))]) (G18.own _ _ (PH.set_same _ _ _)) (by kernel_rfl)) rfl (by kernel_rfl) (by kernel_rfl) rfl (by kernel_rfl) (by kernel_rfl) (by kernel_rfl) (by first | (simp only [maxLen, List.length_append, List.length_cons, List.length_nil]; omega) | (simp only [maxLen]; omega)) (by first | omega | (simp only [List.length_append, List.length_cons, List.length_nil]; omega)) ?_
        intro a19 k19 w19 M19 G19 o19 z19
        refine WL.q (.slice a19 ((((cutK l gone k).1) ++ ([(Tok.mk (((l.getD k tokE.dflt)).id) (((l.getD k tokE.dflt)).parent) (((l.getD k tokE.dflt)).fact))])).length) k19) (by kernel_rfl) rfl (by kernel_rfl) (by kernel_rfl) ?_
        refine WL.nil ?_
        refine EX.then_code ?_
        refine CW.exit ?_
        refine EX.exit_then ?_
        refine EX.exit_here ?_
        refine EX.then_code ?_
        refine CW.region ?_
        refine WL.q (.int .i64 (k : Int)) (by kernel_rfl) rfl (by kernel_rfl) (by kernel_rfl) ?_
        refine WL.q (.int .i64 ((k + 1 : Nat) : Int)) (by kernel_rfl) rfl (by kernel_rfl) (q_int (x := IntKind.i64.wrap ((k : Int) + 1)) (by kernel_rfl) (wrap_to (by omega) (by omega) (by omega))) ?_
        refine WL.q (.int .i64 ((k + 1 : Nat) : Int)) (by kernel_rfl) rfl (by kernel_rfl) (by kernel_rfl) ?_
        refine WL.nil ?_
        obtain ⟨q1, q2⟩ := cutK_no l gone (k := k) (by omega) (goB_not (by omega) (not_true c15))
        exact EX.then_loop ⟨k + 1, a19, k19, aq, cq⟩ ⟨(by kernel_rfl), (lk_val (x := (.slice aq ((cutK l gone k).2.length) cq)) (by kernel_rfl) (by rw [q2]; first | done | rfl)), (by kernel_rfl), (by kernel_rfl), (lk_val (x := (.slice a19 ((((cutK l gone k).1) ++ ([(Tok.mk (((l.getD k tokE.dflt)).id) (((l.getD k tokE.dflt)).parent) (((l.getD k tokE.dflt)).fact))])).length) k19)) (by kernel_rfl) (by rw [q1]; first | done | rfl)), (lk_int (x := ((k + 1 : Nat) : Int)) (by kernel_rfl) (by first | omega | (dsimp only; done) | (dsimp only; omega))), trivial⟩ ⟨h4, M19, (l1.trans l4), G19, (q1.symm ▸ o19), (q2.symm ▸ (Hq.mono l4)), (by omega)⟩ (by first | omega | (dsimp only; omega))
      ·
        skip
        have d20 := not_false c15
        refine CW.skip ?_
        refine EX.then_code ?_
        refine CW.draw (by kernel_rfl) [(7, fun w_ => RS (PH.all w_) tokE al l)] ?_
        refine DW.take (T := fun _ => True) 1 (.slice aq ((cutK l gone k).2.length) cq) rfl (by kernel_rfl) rfl (by kernel_rfl) (.inl fun _ => trivial) (by kernel_rfl) (Deaf.block (Deaf.thens (Deaf.thens (Deaf.block (Deaf.thens (Deaf.body RetM.not_panicked)))))) (fun w_ _ => (by kernel_rfl)) trivial ?_
        refine DW.take (T := fun _ => True) 3 (.slice al l.length cl) rfl (by kernel_rfl) rfl (by kernel_rfl) (.inl fun _ => trivial) (by kernel_rfl) (Deaf.block (Deaf.thens (Deaf.thens (Deaf.block (Deaf.thens (Deaf.body RetM.not_panicked)))))) (fun w_ _ => (by kernel_rfl)) trivial ?_
        refine DW.take (T := fun _ => True) 4 (.int .i64 (k : Int)) rfl (by kernel_rfl) rfl (by kernel_rfl) (.inl fun _ => trivial) (by kernel_rfl) (Deaf.block (Deaf.thens (Deaf.thens (Deaf.block (Deaf.thens (Deaf.body RetM.not_panicked)))))) (fun w_ _ => (by kernel_rfl)) trivial ?_
        refine DW.take (T := fun _ => True) 5 (eptr al (k * tokE.sz)) rfl (by kernel_rfl) rfl (by kernel_rfl) (.inl fun _ => trivial) (by kernel_rfl) (Deaf.block (Deaf.thens (Deaf.thens (Deaf.block (Deaf.thens (Deaf.body RetM.not_panicked)))))) (fun w_ _ => (q_indexAddr (i := k) (E := tokE) (xs := l) (e := 34) (c := cl) (k := .i64) (m := l.length) rfl rfl (by kernel_rfl) (by kernel_rfl) (by kernel_rfl) (Hl.mono ((l1.trans l4).trans (G4.drew).imm)) (by omega))) trivial ?_
        refine DW.take (T := fun _ => True) 6 (eptr al (k * tokE.sz + 0)) rfl (by kernel_rfl) rfl (by kernel_rfl) (.inl fun _ => trivial) (by kernel_rfl) (Deaf.block (Deaf.thens (Deaf.thens (Deaf.block (Deaf.thens (Deaf.body RetM.not_panicked)))))) (fun w_ _ => (q_fieldAddr_e (i := k) (k := k * tokE.sz) (off := 0) rfl (by kernel_rfl) (by kernel_rfl) (Hl.mono ((l1.trans l4).trans (G4.drew).imm)) (by omega))) trivial ?_
        refine DW.take (T := fun w_ => RS (PH.all w_) tokE al l) 7 (.int .i64 (((l.getD k tokE.dflt)).id)) rfl (by kernel_rfl) rfl (by kernel_rfl) (.inr (by simp only [List.mem_cons, true_or, or_true])) (by kernel_rfl) (Deaf.block (Deaf.thens (Deaf.thens (Deaf.block (Deaf.thens (Deaf.body RetM.not_panicked)))))) (fun w_ T_ => (q_load_e (i := k) (k := 0) (E := tokE) rfl (by kernel_rfl) (by kernel_rfl) T_ (by omega) (by decide) (by kernel_rfl))) (Hl.mono ((l1.trans l4).trans (G4.drew).imm)) ?_
        refine DW.two 0 8 (by kernel_rfl) ?_ ?_
        ·
          skip
          refine DOp.new (ob := (.cells #[] 3)) (G4.drew) rfl (by kernel_rfl) rfl (by kernel_rfl) (fun b_ => .slice (some ⟨b_, 0, none⟩) 0 0) (fun u_ => by kernel_rfl) ⟨.inr (fun T_ => T_.mono (le_all_alloc _ _)), trivial⟩ ?_
          intro b23 w23 n23 i23 G23
          refine DW.two 2 8 (by kernel_rfl) ?_ ?_
          ·
            skip
            have o24 : Own 3 intE Mout_4 (Mout_4.set b23 (.cells #[] 3)) (some ⟨b23, 0, none⟩) 0 ([] : List _) := Own.lit n23 (by kernel_rfl) (by kernel_rfl) (by decide)
            refine DOp.append (e := 3) (bytes := 8) (cap := 0) (c2 := cq) (M0 := Mout_4) (xs := ([])) (ys := ((cutK l gone k).2)) G23 (PH.le_refl _) o24 (PH.le_refl _) (Hq.mono (l4.trans G23.imm)) rfl rfl (by kernel_rfl) (by kernel_rfl) rfl (by kernel_rfl) (by kernel_rfl) (by kernel_rfl) (by first | (simp only [maxLen, List.length_append, List.length_cons, List.length_nil]; omega) | (simp only [maxLen]; omega)) (by first | omega | (simp only [List.length_append, List.length_cons, List.length_nil]; omega)) (fun a_ k_ w_ M_ G_ o_ => ⟨.inr (fun _ => (Hl.mono ((l1.trans l4).trans G_.imm))), trivial⟩) ?_
            intro a26 k26 w26 M26 G26 o26 z26
            refine DW.only 8 (by kernel_rfl) ?_
            refine DOp.new (ob := (.cells #[(.int .i64 (((l.getD k tokE.dflt)).id))] 3)) G26 rfl (by kernel_rfl) rfl (by kernel_rfl) (fun b_ => .slice (some ⟨b_, 0, none⟩) 1 1) (fun u_ => by kernel_rfl) ⟨.inl (by kernel_rfl), trivial⟩ ?_
            intro b27 w27 n27 i27 G27
            refine DW.only 9 (by kernel_rfl) ?_
            refine DOp.append (e := 3) (bytes := 8) (cap := k26) (c2 := 1) (M0 := Mout_4) (xs := ([] ++ ((cutK l gone k).2))) (ys := ([((l.getD k tokE.dflt)).id])) G27 (PH.le_set _ n27) o26 (PH.le_refl _) (RS.blk (E := intE) (xs := [((l.getD k tokE.dflt)).id]) (G27.own _ _ (PH.set_same _ _ _)) (by kernel_rfl)) rfl rfl (by kernel_rfl) (by kernel_rfl) rfl (by kernel_rfl) (by kernel_rfl) (by kernel_rfl) (by first | (simp only [maxLen, List.length_append, List.length_cons, List.length_nil]; omega) | (simp only [maxLen]; omega)) (by first | omega | (simp only [List.length_append, List.length_cons, List.length_nil]; omega)) (fun a_ k_ w_ M_ G_ o_ => ⟨.inr (fun _ => (Hl.mono ((l1.trans l4).trans G_.imm))), trivial⟩) ?_
            intro a28 k28 w28 M28 G28 o28 z28
            refine DW.take (T := fun _ => True) 10 (.slice a28 ((([] ++ ((cutK l gone k).2)) ++ ([((l.getD k tokE.dflt)).id])).length) k28) rfl (by kernel_rfl) rfl (by kernel_rfl) (.inl fun _ => trivial) (by kernel_rfl) (Deaf.block (Deaf.thens (Deaf.thens (Deaf.block (Deaf.thens (Deaf.body RetM.not_panicked)))))) (fun w_ _ => (by kernel_rfl)) trivial ?_
            refine DW.done (by kernel_rfl) ?_
            refine EX.in_block ?_
            refine EX.then_code ?_
            refine CW.region ?_
            refine WL.q (.int .i64 (k : Int)) (by kernel_rfl) rfl (by kernel_rfl) (by kernel_rfl) ?_
            refine WL.q (.int .i64 ((k + 1 : Nat) : Int)) (by kernel_rfl) rfl (by kernel_rfl) (q_int (x := IntKind.i64.wrap ((k : Int) + 1)) (by kernel_rfl) (wrap_to (by omega) (by omega) (by omega))) ?_
            refine WL.q (.int .i64 ((k + 1 : Nat) : Int)) (by kernel_rfl) rfl (by kernel_rfl) (by kernel_rfl) ?_
            refine WL.nil ?_
            obtain ⟨h29, l29, G29, r29⟩ := o28.freeze G28
            obtain ⟨q1, q2⟩ := cutK_yes l gone (k := k) (by omega) ((goB_mem (by omega)).1 (not_false c15))
            exact EX.then_loop ⟨k + 1, ao, co, a28, k28⟩ ⟨(by kernel_rfl), (lk_val (x := (.slice a28 ((([] ++ ((cutK l gone k).2)) ++ ([((l.getD k tokE.dflt)).id])).length) k28)) (by kernel_rfl) (by rw [q2]; first | done | rfl)), (by kernel_rfl), (by kernel_rfl), (lk_val (x := (.slice ao ((cutK l gone k).1.length) co)) (by kernel_rfl) (by rw [q1]; first | done | rfl)), (lk_int (x := ((k + 1 : Nat) : Int)) (by kernel_rfl) (by first | omega | (dsimp only; done) | (dsimp only; omega))), trivial⟩ ⟨h29, Mout_4, ((l1.trans l4).trans l29), G29, (q1.symm ▸ oout4), (q2.symm ▸ (r29.mono (PH.le_refl _))), (by omega)⟩ (by first | omega | (dsimp only; omega))
          ·
            skip
            refine DOp.new (ob := (.cells #[(.int .i64 (((l.getD k tokE.dflt)).id))] 3)) G23 rfl (by kernel_rfl) rfl (by kernel_rfl) (fun b_ => .slice (some ⟨b_, 0, none⟩) 1 1) (fun u_ => by kernel_rfl) ⟨.inl (by kernel_rfl), trivial⟩ ?_
            intro b30 w30 n30 i30 G30
            refine DW.only 2 (by kernel_rfl) ?_
            have o31 : Own 3 intE Mout_4 (Mout_4.set b23 (.cells #[] 3)) (some ⟨b23, 0, none⟩) 0 ([] : List _) := Own.lit n23 (by kernel_rfl) (by kernel_rfl) (by decide)
            have n33 := none_of_le o31.le n30
            have o34 := Own.under (o := (.cells #[(.int .i64 (((l.getD k tokE.dflt)).id))] 3)) n30 o31
            refine DOp.append (e := 3) (bytes := 8) (cap := 0) (c2 := cq) (M0 := (Mout_4.set b30 (.cells #[(.int .i64 (((l.getD k tokE.dflt)).id))] 3))) (xs := ([])) (ys := ((cutK l gone k).2)) G30 (PH.le_refl _) o34 (PH.le_refl _) (Hq.mono (l4.trans G30.imm)) rfl rfl (by kernel_rfl) (by kernel_rfl) rfl (by kernel_rfl) (by kernel_rfl) (by kernel_rfl) (by first | (simp only [maxLen, List.length_append, List.length_cons, List.length_nil]; omega) | (simp only [maxLen]; omega)) (by first | omega | (simp only [List.length_append, List.length_cons, List.length_nil]; omega)) (fun a_ k_ w_ M_ G_ o_ => ⟨.inr (fun _ => (Hl.mono ((l1.trans l4).trans G_.imm))), trivial⟩) ?_
            intro a35 k35 w35 M35 G35 o35 z35
            refine DW.only 9 (by kernel_rfl) ?_
            refine DOp.append (e := 3) (bytes := 8) (cap := k35) (c2 := 1) (M0 := (Mout_4.set b30 (.cells #[(.int .i64 (((l.getD k tokE.dflt)).id))] 3))) (xs := ([] ++ ((cutK l gone k).2))) (ys := ([((l.getD k tokE.dflt)).id])) G35 (PH.le_refl _) o35 (PH.le_refl _) (RS.blk (E := intE) (xs := [((l.getD k tokE.dflt)).id]) (G35.own _ _ (o35.le _ _ (PH.set_same _ _ _))) (by kernel_rfl)) rfl rfl (by kernel_rfl) (by kernel_rfl) rfl (by kernel_rfl) (by kernel_rfl) (by kernel_rfl) (by first | (simp only [maxLen, List.length_append, List.length_cons, List.length_nil]; omega) | (simp only [maxLen]; omega)) (by first | omega | (simp only [List.length_append, List.length_cons, List.length_nil]; omega)) (fun a_ k_ w_ M_ G_ o_ => ⟨.inr (fun _ => (Hl.mono ((l1.trans l4).trans G_.imm))), trivial⟩) ?_
            intro a36 k36 w36 M36 G36 o36 z36
            refine DW.take (T := fun _ => True) 10 (.slice a36 ((([] ++ ((cutK l gone k).2)) ++ ([((l.getD k tokE.dflt)).id])).length) k36) rfl (by kernel_rfl) rfl (by kernel_rfl) (.inl fun _ => trivial) (by kernel_rfl) (Deaf.block (Deaf.thens (Deaf.thens (Deaf.block (Deaf.thens (Deaf.body RetM.not_panicked)))))) (fun w_ _ => (by kernel_rfl)) trivial ?_
            refine DW.done (by kernel_rfl) ?_
            refine EX.in_block ?_
            refine EX.then_code ?_
            refine CW.region ?_
            refine WL.q (.int .i64 (k : Int)) (by kernel_rfl) rfl (by kernel_rfl) (by kernel_rfl) ?_
            refine WL.q (.int .i64 ((k + 1 : Nat) : Int)) (by kernel_rfl) rfl (by kernel_rfl) (q_int (x := IntKind.i64.wrap ((k : Int) + 1)) (by kernel_rfl) (wrap_to (by omega) (by omega) (by omega))) ?_
            refine WL.q (.int .i64 ((k + 1 : Nat) : Int)) (by kernel_rfl) rfl (by kernel_rfl) (by kernel_rfl) ?_
            refine WL.nil ?_
            obtain ⟨h37, l37, G37, r37⟩ := o36.freeze G36
            obtain ⟨q1, q2⟩ := cutK_yes l gone (k := k) (by omega) ((goB_mem (by omega)).1 (not_false c15))
            exact EX.then_loop ⟨k + 1, ao, co, a36, k36⟩ ⟨(by kernel_rfl), (lk_val (x := (.slice a36 ((([] ++ ((cutK l gone k).2)) ++ ([((l.getD k tokE.dflt)).id])).length) k36)) (by kernel_rfl) (by rw [q2]; first | done | rfl)), (by kernel_rfl), (by kernel_rfl), (lk_val (x := (.slice ao ((cutK l gone k).1.length) co)) (by kernel_rfl) (by rw [q1]; first | done | rfl)), (lk_int (x := ((k + 1 : Nat) : Int)) (by kernel_rfl) (by first | omega | (dsimp only; done) | (dsimp only; omega))), trivial⟩ ⟨h37, Mout_4, ((l1.trans l4).trans l37), (G37.drop (PH.le_set _ n33)), (q1.symm ▸ oout4), (q2.symm ▸ (r37.mono (PH.le_refl _))), (by omega)⟩ (by first | omega | (dsimp only; omega))
        ·
          skip
          refine DOp.new (ob := (.cells #[(.int .i64 (((l.getD k tokE.dflt)).id))] 3)) (G4.drew) rfl (by kernel_rfl) rfl (by kernel_rfl) (fun b_ => .slice (some ⟨b_, 0, none⟩) 1 1) (fun u_ => by kernel_rfl) ⟨.inl (by kernel_rfl), trivial⟩ ?_
          intro b38 w38 n38 i38 G38
          refine DW.only 0 (by kernel_rfl) ?_
          refine DOp.new (ob := (.cells #[] 3)) G38 rfl (by kernel_rfl) rfl (by kernel_rfl) (fun b_ => .slice (some ⟨b_, 0, none⟩) 0 0) (fun u_ => by kernel_rfl) ⟨.inr (fun T_ => T_.mono (le_all_alloc _ _)), trivial⟩ ?_
          intro b39 w39 n39 i39 G39
          refine DW.only 2 (by kernel_rfl) ?_
          have o40 : Own 3 intE (Mout_4.set b38 (.cells #[(.int .i64 (((l.getD k tokE.dflt)).id))] 3)) ((Mout_4.set b38 (.cells #[(.int .i64 (((l.getD k tokE.dflt)).id))] 3)).set b39 (.cells #[] 3)) (some ⟨b39, 0, none⟩) 0 ([] : List _) := Own.lit n39 (by kernel_rfl) (by kernel_rfl) (by decide)
          refine DOp.append (e := 3) (bytes := 8) (cap := 0) (c2 := cq) (M0 := (Mout_4.set b38 (.cells #[(.int .i64 (((l.getD k tokE.dflt)).id))] 3))) (xs := ([])) (ys := ((cutK l gone k).2)) G39 (PH.le_refl _) o40 (PH.le_refl _) (Hq.mono (l4.trans G39.imm)) rfl rfl (by kernel_rfl) (by kernel_rfl) rfl (by kernel_rfl) (by kernel_rfl) (by kernel_rfl) (by first | (simp only [maxLen, List.length_append, List.length_cons, List.length_nil]; omega) | (simp only [maxLen]; omega)) (by first | omega | (simp only [List.length_append, List.length_cons, List.length_nil]; omega)) (fun a_ k_ w_ M_ G_ o_ => ⟨.inr (fun _ => (Hl.mono ((l1.trans l4).trans G_.imm))), trivial⟩) ?_
          intro a42 k42 w42 M42 G42 o42 z42
          refine DW.only 9 (by kernel_rfl) ?_
          refine DOp.append (e := 3) (bytes := 8) (cap := k42) (c2 := 1) (M0 := (Mout_4.set b38 (.cells #[(.int .i64 (((l.getD k tokE.dflt)).id))] 3))) (xs := ([] ++ ((cutK l gone k).2))) (ys := ([((l.getD k tokE.dflt)).id])) G42 (PH.le_refl _) o42 (PH.le_refl _) (RS.blk (E := intE) (xs := [((l.getD k tokE.dflt)).id]) (G42.own _ _ (o42.le _ _ (PH.set_same _ _ _))) (by kernel_rfl)) rfl rfl (by kernel_rfl) (by kernel_rfl) rfl (by kernel_rfl) (by kernel_rfl) (by kernel_rfl) (by first | (simp only [maxLen, List.length_append, List.length_cons, List.length_nil]; omega) | (simp only [maxLen]; omega)) (by first | omega | (simp only [List.length_append, List.length_cons, List.length_nil]; omega)) (fun a_ k_ w_ M_ G_ o_ => ⟨.inr (fun _ => (Hl.mono ((l1.trans l4).trans G_.imm))), trivial⟩) ?_
          intro a43 k43 w43 M43 G43 o43 z43
          refine DW.take (T := fun _ => True) 10 (.slice a43 ((([] ++ ((cutK l gone k).2)) ++ ([((l.getD k tokE.dflt)).id])).length) k43) rfl (by kernel_rfl) rfl (by kernel_rfl) (.inl fun _ => trivial) (by kernel_rfl) (Deaf.block (Deaf.thens (Deaf.thens (Deaf.block (Deaf.thens (Deaf.body RetM.not_panicked)))))) (fun w_ _ => (by kernel_rfl)) trivial ?_
          refine DW.done (by kernel_rfl) ?_
          refine EX.in_block ?_
          refine EX.then_code ?_
          refine CW.region ?_
          refine WL.q (.int .i64 (k : Int)) (by kernel_rfl) rfl (by kernel_rfl) (by kernel_rfl) ?_
          refine WL.q (.int .i64 ((k + 1 : Nat) : Int)) (by kernel_rfl) rfl (by kernel_rfl) (q_int (x := IntKind.i64.wrap ((k : Int) + 1)) (by kernel_rfl) (wrap_to (by omega) (by omega) (by omega))) ?_
          refine WL.q (.int .i64 ((k + 1 : Nat) : Int)) (by kernel_rfl) rfl (by kernel_rfl) (by kernel_rfl) ?_
          refine WL.nil ?_
          obtain ⟨h44, l44, G44, r44⟩ := o43.freeze G43
          obtain ⟨q1, q2⟩ := cutK_yes l gone (k := k) (by omega) ((goB_mem (by omega)).1 (not_false c15))
          exact EX.then_loop ⟨k + 1, ao, co, a43, k43⟩ ⟨(by kernel_rfl), (lk_val (x := (.slice a43 ((([] ++ ((cutK l gone k).2)) ++ ([((l.getD k tokE.dflt)).id])).length) k43)) (by kernel_rfl) (by rw [q2]; first | done | rfl)), (by kernel_rfl), (by kernel_rfl), (lk_val (x := (.slice ao ((cutK l gone k).1.length) co)) (by kernel_rfl) (by rw [q1]; first | done | rfl)), (lk_int (x := ((k + 1 : Nat) : Int)) (by kernel_rfl) (by first | omega | (dsimp only; done) | (dsimp only; omega))), trivial⟩ ⟨h44, Mout_4, ((l1.trans l4).trans l44), (G44.drop (PH.le_set _ n38)), (q1.symm ▸ oout4), (q2.symm ▸ (r44.mono (PH.le_refl _))), (by omega)⟩ (by first | omega | (dsimp only; omega))
  ·
    skip
    have d45 := of_decide_eq_false c2
    refine CW.exit ?_
    refine EX.exit_then ?_
    refine EX.exit_then ?_
    refine EX.exit_here ?_
    refine EX.then_code ?_
    refine CW.seq ?_
    refine CW.region ?_
    refine WL.q (.slice none 0 0) (by kernel_rfl) rfl (by kernel_rfl) (by kernel_rfl) ?_
    refine WL.nil ?_
    refine EX.then_code ?_
    refine CW.seq ?_
    refine CW.seq ?_
    refine CW.region ?_
    refine WL.q (.int .i64 0) (by kernel_rfl) rfl (by kernel_rfl) (by kernel_rfl) ?_
    refine WL.nil ?_
    refine EX.then_code ?_
    refine CW.block ?_
    obtain rfl : k = l.length := by omega
    obtain ⟨h46, l46, G46, r46⟩ := oout1.freeze G1
    have hcl := cutK_len l gone l.length
    refine CW.loop (β := Nat × Option Addr × Nat) (fun x_ => [(0, (.slice al l.length cl)), (4, (.slice none 0 0)), (5, (.slice none 0 0)), (6, (.slice ao ((cutK l gone l.length).1.length) co)), (10, (.slice x_.2.1 ((idsK l (cutK l gone l.length).1 x_.1).length) x_.2.2)), (11, (.int .i64 (x_.1 : Int)))]) (fun x_ w_ => ∃ h_ Mids_, (PH.le h46 h_) ∧ (Wld K w_ h_ Mids_) ∧ (Own 3 intE M Mids_ x_.2.1 x_.2.2 (idsK l (cutK l gone l.length).1 x_.1)) ∧ (x_.1 ≤ l.length)) (fun x_ => l.length - x_.1) ⟨0, none, 0⟩ ⟨(by kernel_rfl), (by kernel_rfl), (by kernel_rfl), (by kernel_rfl), (by kernel_rfl), (lk_int (x := 0) (by kernel_rfl) (by first | omega | (dsimp only; done) | (dsimp only; omega))), trivial⟩ ⟨h46, M, (PH.le_refl _), G46, (Own.nil 3 intE M), (by omega)⟩ ?_
    rintro ⟨q, ai, ci⟩ w47 ⟨h47, Mids_47, l47, G47, oids47, hq⟩
    try dsimp only at *
    have hql := idsK_len l (cutK l gone l.length).1 q
    refine CW.seq ?_
    refine CW.seq ?_
    refine CW.region ?_
    refine WL.q (.int .i64 (q : Int)) (by kernel_rfl) rfl (by kernel_rfl) (by kernel_rfl) ?_
    refine WL.q (.slice al l.length cl) (by kernel_rfl) rfl (by kernel_rfl) (by kernel_rfl) ?_
    refine WL.q (.int .i64 (l.length : Int)) (by kernel_rfl) rfl (by kernel_rfl) (by kernel_rfl) ?_
    refine WL.q (.bool (decide ((q : Int) < (l.length : Int)))) (by kernel_rfl) rfl (by kernel_rfl) (by kernel_rfl) ?_
    refine WL.nil ?_
    refine EX.then_code ?_
    refine CW.cond (decide ((q : Int) < (l.length : Int))) (by kernel_rfl) (by kernel_rfl) (fun c48 => ?_) (fun c48 => ?_)
    ·
      skip
      have d49 := of_decide_eq_true c48
      refine CW.skip ?_
      refine EX.then_code ?_
      refine CW.seq ?_
      refine CW.block ?_
      refine CW.seq ?_
      refine CW.region ?_
      refine WL.q (.slice ao ((cutK l gone l.length).1.length) co) (by kernel_rfl) rfl (by kernel_rfl) (by kernel_rfl) ?_
      refine WL.q (.slice al l.length cl) (by kernel_rfl) rfl (by kernel_rfl) (by kernel_rfl) ?_
      refine WL.q (.int .i64 (q : Int)) (by kernel_rfl) rfl (by kernel_rfl) (by kernel_rfl) ?_
      refine WL.q (eptr al (q * tokE.sz)) (by kernel_rfl) rfl (by kernel_rfl) (q_indexAddr (i := q) (E := tokE) (xs := l) (e := 34) (c := cl) (k := .i64) (m := l.length) rfl rfl (by kernel_rfl) (by kernel_rfl) (by kernel_rfl) (Hl.mono (((l1.trans l46).trans l47).trans G47.imm)) (by omega)) ?_
      refine WL.q (eptr al (q * tokE.sz + 0)) (by kernel_rfl) rfl (by kernel_rfl) (q_fieldAddr_e (i := q) (k := q * tokE.sz) (off := 0) rfl (by kernel_rfl) (by kernel_rfl) (Hl.mono (((l1.trans l46).trans l47).trans G47.imm)) (by omega)) ?_
      refine WL.q (.int .i64 (((l.getD q tokE.dflt)).id)) (by kernel_rfl) rfl (by kernel_rfl) (q_load_e (i := q) (k := 0) (E := tokE) rfl (by kernel_rfl) (by kernel_rfl) (Hl.mono (((l1.trans l46).trans l47).trans G47.imm)) (by omega) (by decide) (by kernel_rfl)) ?_
      refine WL.call (by kernel_rfl) rfl (by kernel_rfl) (by kernel_rfl) (at_spec (cl := co) G47 (((l.getD q tokE.dflt)).id) (r46.mono l47) (by omega)) (Ret.elim ?_)
      rintro w50 h50 _ l50 G50 rfl
      have e51 := atF_bd ((cutK l gone l.length).1) (((l.getD q tokE.dflt)).id)
      refine WL.q (.bool (decide ((atF ((cutK l gone l.length).1) (((l.getD q tokE.dflt)).id)) < 0))) (by kernel_rfl) rfl (by kernel_rfl) (by kernel_rfl) ?_
      refine WL.nil ?_
      refine EX.then_code ?_
      refine CW.cond (decide ((atF ((cutK l gone l.length).1) (((l.getD q tokE.dflt)).id)) < 0)) (by kernel_rfl) (by kernel_rfl) (fun c52 => ?_) (fun c52 => ?_)
      ·
        skip
        have d53 := of_decide_eq_true c52
        refine CW.region ?_
        refine WL.q (.slice ai ((idsK l (cutK l gone l.length).1 q).length) ci) (by kernel_rfl) rfl (by kernel_rfl) (by kernel_rfl) ?_
        refine WL.q (.slice al l.length cl) (by kernel_rfl) rfl (by kernel_rfl) (by kernel_rfl) ?_
        refine WL.q (.int .i64 (q : Int)) (by kernel_rfl) rfl (by kernel_rfl) (by kernel_rfl) ?_
        refine WL.q (eptr al (q * tokE.sz)) (by kernel_rfl) rfl (by kernel_rfl) (q_indexAddr (i := q) (E := tokE) (xs := l) (e := 34) (c := cl) (k := .i64) (m := l.length) rfl rfl (by kernel_rfl) (by kernel_rfl) (by kernel_rfl) (Hl.mono ((((l1.trans l46).trans l47).trans l50).trans G50.imm)) (by omega)) ?_
        refine WL.q (eptr al (q * tokE.sz + 0)) (by kernel_rfl) rfl (by kernel_rfl) (q_fieldAddr_e (i := q) (k := q * tokE.sz) (off := 0) rfl (by kernel_rfl) (by kernel_rfl) (Hl.mono ((((l1.trans l46).trans l47).trans l50).trans G50.imm)) (by omega)) ?_
        refine WL.q (.int .i64 (((l.getD q tokE.dflt)).id)) (by kernel_rfl) rfl (by kernel_rfl) (q_load_e (i := q) (k := 0) (E := tokE) rfl (by kernel_rfl) (by kernel_rfl) (Hl.mono ((((l1.trans l46).trans l47).trans l50).trans G50.imm)) (by omega) (by decide) (by kernel_rfl)) ?_
        refine WL.new (ob := (.cells #[(.int .i64 (((l.getD q tokE.dflt)).id))] 3)) G50 (by kernel_rfl) rfl (by kernel_rfl) (fun b_ => .slice (some ⟨b_, 0, none⟩) 1 1) (fun u_ => by kernel_rfl) ?_
        intro b54 w54 n54 i54 G54
        refine WL.append (e := 3) (bytes := 8) (cap := ci) (c2 := 1) (M0 := M) (xs := (idsK l (cutK l gone l.length).1 q)) (ys := ([((l.getD q tokE.dflt)).id])) G54 (PH.le_set _ n54) oids47 (PH.le_refl _) (RS.blk (E := intE) (xs := [((l.getD q tokE.dflt)).id]) (G54.own _ _ (PH.set_same _ _ _)) (by kernel_rfl)) rfl (by kernel_rfl) (by kernel_rfl) rfl (by kernel_rfl) (by kernel_rfl) (by kernel_rfl) (by first | (simp only [maxLen, List.length_append, List.length_cons, List.length_nil]; omega) | (simp only [maxLen]; omega)) (by first | omega | (simp only [List.length_append, List.length_cons, List.length_nil]; omega)) ?_
        intro a55 k55 w55 M55 G55 o55 z55
        refine WL.q (.slice a55 (((idsK l (cutK l gone l.length).1 q) ++ ([((l.getD q tokE.dflt)).id])).length) k55) (by kernel_rfl) rfl (by kernel_rfl) (by kernel_rfl) ?_
        refine WL.nil ?_
        refine EX.in_block ?_
        refine EX.then_code ?_
        refine CW.region ?_
        refine WL.q (.int .i64 (q : Int)) (by kernel_rfl) rfl (by kernel_rfl) (by kernel_rfl) ?_
        refine WL.q (.int .i64 ((q + 1 : Nat) : Int)) (by kernel_rfl) rfl (by kernel_rfl) (q_int (x := IntKind.i64.wrap ((q : Int) + 1)) (by kernel_rfl) (wrap_to (by omega) (by omega) (by omega))) ?_
        refine WL.q (.int .i64 ((q + 1 : Nat) : Int)) (by kernel_rfl) rfl (by kernel_rfl) (by kernel_rfl) ?_
        refine WL.nil ?_
        have q1 := idsK_yes l (cutK l gone l.length).1 (k := q) (by omega) (of_decide_eq_true c52)
        exact EX.then_loop ⟨q + 1, a55, k55⟩ ⟨(by kernel_rfl), (by kernel_rfl), (by kernel_rfl), (by kernel_rfl), (lk_val (x := (.slice a55 (((idsK l (cutK l gone l.length).1 q) ++ ([((l.getD q tokE.dflt)).id])).length) k55)) (by kernel_rfl) (by rw [q1]; first | done | rfl)), (lk_int (x := ((q + 1 : Nat) : Int)) (by kernel_rfl) (by first | omega | (dsimp only; done) | (dsimp only; omega))), trivial⟩ ⟨h50, M55, (l47.trans l50), G55, (q1.symm ▸ o55), (by omega)⟩ (by first | omega | (dsimp only; omega))
      ·
        skip
        have d56 := of_decide_eq_false c52
        refine CW.skip ?_
        refine EX.in_block ?_
        refine EX.then_code ?_
        refine CW.region ?_
        refine WL.q (.int .i64 (q : Int)) (by kernel_rfl) rfl (by kernel_rfl) (by kernel_rfl) ?_
        refine WL.q (.int .i64 ((q + 1 : Nat) : Int)) (by kernel_rfl) rfl (by kernel_rfl) (q_int (x := IntKind.i64.wrap ((q : Int) + 1)) (by kernel_rfl) (wrap_to (by omega) (by omega) (by omega))) ?_
        refine WL.q (.int .i64 ((q + 1 : Nat) : Int)) (by kernel_rfl) rfl (by kernel_rfl) (by kernel_rfl) ?_
        refine WL.nil ?_
        have q1 := idsK_no l (cutK l gone l.length).1 (k := q) (by omega) (of_decide_eq_false c52)
        exact EX.then_loop ⟨q + 1, ai, ci⟩ ⟨(by kernel_rfl), (by kernel_rfl), (by kernel_rfl), (by kernel_rfl), (lk_val (x := (.slice ai ((idsK l (cutK l gone l.length).1 q).length) ci)) (by kernel_rfl) (by rw [q1]; first | done | rfl)), (lk_int (x := ((q + 1 : Nat) : Int)) (by kernel_rfl) (by first | omega | (dsimp only; done) | (dsimp only; omega))), trivial⟩ ⟨h50, Mids_47, (l47.trans l50), G50, (q1.symm ▸ oids47), (by omega)⟩ (by first | omega | (dsimp only; omega))
    ·
      skip
      have d57 := of_decide_eq_false c48
      refine CW.exit ?_
      refine EX.exit_then ?_
      refine EX.exit_then ?_
      refine EX.exit_here ?_
      refine EX.then_code ?_
      refine CW.seq ?_
      refine CW.region ?_
      refine WL.q (.slice ao ((cutK l gone l.length).1.length) co) (by kernel_rfl) rfl (by kernel_rfl) (by kernel_rfl) ?_
      refine WL.q (.slice ai ((idsK l (cutK l gone l.length).1 q).length) ci) (by kernel_rfl) rfl (by kernel_rfl) (by kernel_rfl) ?_
      refine WL.q (.slice ao ((cutK l gone l.length).1.length) co) (by kernel_rfl) rfl (by kernel_rfl) (by kernel_rfl) ?_
      refine WL.q (.slice ai ((idsK l (cutK l gone l.length).1 q).length) ci) (by kernel_rfl) rfl (by kernel_rfl) (by kernel_rfl) ?_
      refine WL.nil ?_
      refine EX.then_code ?_
      refine CW.ret ?_
      refine EX.ret2 (v := (.slice ao ((cutK l gone l.length).1.length) co)) (x := (.slice ai ((idsK l (cutK l gone l.length).1 q).length) ci)) rfl (by kernel_rfl) (by kernel_rfl) ?_
      obtain rfl : q = l.length := by omega
      obtain ⟨h58, l58, G58, r58⟩ := oids47.freeze G47
      exact Ret.mk (((l1.trans l46).trans l47).trans l58) G58 ⟨_, _, _, _, rfl, (r46.mono (l47.trans l58)), r58⟩

theorem path_spec {K : Key} {w : World} {h M : PH} (G : Wld K w h M) {al : Option Addr} {l : List Tok} {cl : Nat} (id0 : Int) (Hl : RS h tokE al l) (hb : l.length ≤ 1000000) (ha : Ahead l) :
    Calls Try.prog 15 #[.slice al l.length cl, .int .i64 id0] w (Ret K h M fun h' v => ∃ a c, v = .slice a (pathN l (l.length + 1) id0).length c ∧ RS h' intE a (pathN l (l.length + 1) id0)) := by
  refine enter (l := [(.slice al l.length cl), (.int .i64 id0)]) Try.func15 rfl Try.ntmps15 (Nat.le_of_ble_eq_true rfl) ?_
  simp only [params]
  refine CW.seq ?_
  refine CW.region ?_
  refine WL.q (.slice none 0 0) (by kernel_rfl) rfl (by kernel_rfl) (by kernel_rfl) ?_
  refine WL.nil ?_
  refine EX.then_code ?_
  refine CW.seq ?_
  refine CW.region ?_
  refine WL.q (.slice none 0 0) (by kernel_rfl) rfl (by kernel_rfl) (by kernel_rfl) ?_
  refine WL.nil ?_
  refine EX.then_code ?_
  refine CW.seq ?_
  refine CW.block ?_
  refine CW.loop (β := Int × Nat × List Int × Option Addr × Nat) (fun x_ => [(0, (.slice al l.length cl)), (1, (.int .i64 x_.1)), (5, (.slice x_.2.2.2.1 x_.2.2.1.length x_.2.2.2.2))]) (fun x_ w_ => ∃ h_ , (PH.le h h_) ∧ (Wld K w_ h_ M) ∧ (RS h_ intE x_.2.2.2.1 x_.2.2.1) ∧ (PathAt l id0 x_.1 x_.2.1 x_.2.2.1)) (fun x_ => x_.2.1) ⟨id0, l.length + 1, [], none, 0⟩ ⟨(by kernel_rfl), (by kernel_rfl), (by kernel_rfl), trivial⟩ ⟨h, (PH.le_refl _), G, (RS.nil _ _ _), (PathAt.start l id0)⟩ ?_
  rintro ⟨id, n, out, ao, co⟩ w59 ⟨h59, l59, G59, Ho, hp⟩
  try dsimp only at *
  have hpl := hp.len
  refine CW.seq ?_
  refine CW.seq ?_
  refine CW.region ?_
  refine WL.q (.int .i64 id) (by kernel_rfl) rfl (by kernel_rfl) (by kernel_rfl) ?_
  refine WL.q (.bool ((id : Int) != 0)) (by kernel_rfl) rfl (by kernel_rfl) (by kernel_rfl) ?_
  refine WL.nil ?_
  refine EX.then_code ?_
  refine CW.cond ((id : Int) != 0) (by kernel_rfl) (by kernel_rfl) (fun c60 => ?_) (fun c60 => ?_)
  ·
    skip
    have d61 := bne_true c60
    refine CW.skip ?_
    refine EX.then_code ?_
    refine CW.block ?_
    refine CW.seq ?_
    refine CW.region ?_
    refine WL.q (.slice al l.length cl) (by kernel_rfl) rfl (by kernel_rfl) (by kernel_rfl) ?_
    refine WL.q (.int .i64 id) (by kernel_rfl) rfl (by kernel_rfl) (by kernel_rfl) ?_
    refine WL.call (by kernel_rfl) rfl (by kernel_rfl) (by kernel_rfl) (at_spec (cl := cl) G59 id (Hl.mono l59) (by omega)) (Ret.elim ?_)
    rintro w62 h62 _ l62 G62 rfl
    have e63 := atF_bd l id
    refine WL.q (.int .i64 (atF l id)) (by kernel_rfl) rfl (by kernel_rfl) (by kernel_rfl) ?_
    refine WL.nil ?_
    refine EX.then_code ?_
    refine CW.seq ?_
    refine CW.seq ?_
    refine CW.region ?_
    refine WL.q (.int .i64 (atF l id)) (by kernel_rfl) rfl (by kernel_rfl) (by kernel_rfl) ?_
    refine WL.q (.bool (decide ((atF l id) < 0))) (by kernel_rfl) rfl (by kernel_rfl) (by kernel_rfl) ?_
    refine WL.nil ?_
    refine EX.then_code ?_
    refine CW.cond (decide ((atF l id) < 0)) (by kernel_rfl) (by kernel_rfl) (fun c64 => ?_) (fun c64 => ?_)
    ·
      skip
      have d65 := of_decide_eq_true c64
      refine CW.seq ?_
      refine CW.region ?_
      refine WL.q (.slice none 0 0) (by kernel_rfl) rfl (by kernel_rfl) (by kernel_rfl) ?_
      refine WL.nil ?_
      refine EX.then_code ?_
      refine CW.ret ?_
      refine EX.ret_then ?_
      refine EX.ret_block ?_
      refine EX.ret_then ?_
      refine EX.ret_block ?_
      refine EX.ret_then ?_
      refine EX.ret1 (v := (.slice none 0 0)) rfl (by kernel_rfl) ?_
      exact Ret.mk (l59.trans l62) G62 ⟨none, 0, by rw [hp.lost (by assumption) (by assumption)]; rfl, by rw [hp.lost (by assumption) (by assumption)]; exact RS.nil _ _ _⟩
    ·
      skip
      have d66 := of_decide_eq_false c64
      refine CW.skip ?_
      refine EX.then_code ?_
      refine CW.seq ?_
      refine CW.region ?_
      refine WL.q (.slice al l.length cl) (by kernel_rfl) rfl (by kernel_rfl) (by kernel_rfl) ?_
      refine WL.q (.int .i64 (atF l id)) (by kernel_rfl) rfl (by kernel_rfl) (by kernel_rfl) ?_
      refine WL.q (eptr al ((((atF l id)).toNat) * tokE.sz)) (by kernel_rfl) rfl (by kernel_rfl) (q_indexAddr (i := (((atF l id)).toNat)) (E := tokE) (xs := l) (e := 34) (c := cl) (k := .i64) (m := l.length) rfl rfl (by kernel_rfl) (by kernel_rfl) ((show _ = Value.int .i64 (atF l id) by kernel_rfl).trans (congrArg (Value.int .i64) (by omega))) (Hl.mono ((l59.trans l62).trans G62.imm)) (by omega)) ?_
      refine WL.q (eptr al ((((atF l id)).toNat) * tokE.sz + 2)) (by kernel_rfl) rfl (by kernel_rfl) (q_fieldAddr_e (i := (((atF l id)).toNat)) (k := (((atF l id)).toNat) * tokE.sz) (off := 2) rfl (by kernel_rfl) (by kernel_rfl) (Hl.mono ((l59.trans l62).trans G62.imm)) (by omega)) ?_
      refine WL.q (.int .i64 (((l.getD (((atF l id)).toNat) tokE.dflt)).fact)) (by kernel_rfl) rfl (by kernel_rfl) (q_load_e (i := (((atF l id)).toNat)) (k := 2) (E := tokE) rfl (by kernel_rfl) (by kernel_rfl) (Hl.mono ((l59.trans l62).trans G62.imm)) (by omega) (by decide) (by kernel_rfl)) ?_
      refine WL.new (ob := (.cells #[(.int .i64 (((l.getD (((atF l id)).toNat) tokE.dflt)).fact))] 3)) G62 (by kernel_rfl) rfl (by kernel_rfl) (fun b_ => .slice (some ⟨b_, 0, none⟩) 1 1) (fun u_ => by kernel_rfl) ?_
      intro b67 w67 n67 i67 G67
      refine WL.q (.slice ao out.length co) (by kernel_rfl) rfl (by kernel_rfl) (by kernel_rfl) ?_
      have o68 : Own 3 intE M (M.set b67 (.cells #[(.int .i64 (((l.getD (((atF l id)).toNat) tokE.dflt)).fact))] 3)) (some ⟨b67, 0, none⟩) 1 ([((l.getD (((atF l id)).toNat) tokE.dflt)).fact]) := Own.lit n67 (by kernel_rfl) (by kernel_rfl) (by decide)
      refine WL.append (e := 3) (bytes := 8) (cap := 1) (c2 := co) (M0 := M) (xs := ([((l.getD (((atF l id)).toNat) tokE.dflt)).fact])) (ys := out) G67 (PH.le_refl _) o68 (PH.le_refl _) (Ho.mono (((PH.le_refl _).trans l62).trans G67.imm)) rfl (by kernel_rfl) (by kernel_rfl) rfl (by kernel_rfl) (by kernel_rfl) (by kernel_rfl) (by first | (simp only [maxLen, List.length_append, List.length_cons, List.length_nil]; omega) | (simp only [maxLen]; omega)) (by first | omega | (simp only [List.length_append, List.length_cons, List.length_nil]; omega)) ?_
      intro a70 k70 w70 M70 G70 o70 z70
      refine WL.q (.slice a70 ((([((l.getD (((atF l id)).toNat) tokE.dflt)).fact]) ++ out).length) k70) (by kernel_rfl) rfl (by kernel_rfl) (by kernel_rfl) ?_
      refine WL.nil ?_
      refine EX.then_code ?_
      refine CW.region ?_
      refine WL.q (.slice al l.length cl) (by kernel_rfl) rfl (by kernel_rfl) (by kernel_rfl) ?_
      refine WL.q (.int .i64 (atF l id)) (by kernel_rfl) rfl (by kernel_rfl) (by kernel_rfl) ?_
      refine WL.q (eptr al ((((atF l id)).toNat) * tokE.sz)) (by kernel_rfl) rfl (by kernel_rfl) (q_indexAddr (i := (((atF l id)).toNat)) (E := tokE) (xs := l) (e := 34) (c := cl) (k := .i64) (m := l.length) rfl rfl (by kernel_rfl) (by kernel_rfl) ((show _ = Value.int .i64 (atF l id) by kernel_rfl).trans (congrArg (Value.int .i64) (by omega))) (Hl.mono ((l59.trans l62).trans G70.imm)) (by omega)) ?_
      refine WL.q (eptr al ((((atF l id)).toNat) * tokE.sz + 1)) (by kernel_rfl) rfl (by kernel_rfl) (q_fieldAddr_e (i := (((atF l id)).toNat)) (k := (((atF l id)).toNat) * tokE.sz) (off := 1) rfl (by kernel_rfl) (by kernel_rfl) (Hl.mono ((l59.trans l62).trans G70.imm)) (by omega)) ?_
      refine WL.q (.int .i64 (((l.getD (((atF l id)).toNat) tokE.dflt)).parent)) (by kernel_rfl) rfl (by kernel_rfl) (q_load_e (i := (((atF l id)).toNat)) (k := 1) (E := tokE) rfl (by kernel_rfl) (by kernel_rfl) (Hl.mono ((l59.trans l62).trans G70.imm)) (by omega) (by decide) (by kernel_rfl)) ?_
      refine WL.q (.int .i64 (((l.getD (((atF l id)).toNat) tokE.dflt)).parent)) (by kernel_rfl) rfl (by kernel_rfl) (by kernel_rfl) ?_
      refine WL.nil ?_
      refine EX.in_block ?_
      obtain ⟨h71, l71, G71, r71⟩ := o70.freeze G70
      obtain ⟨hn1, hp2⟩ := hp.step ha (by assumption) (by omega)
      exact EX.then_loop ⟨((l.getD (((atF l id)).toNat) tokE.dflt)).parent, n - 1, (([((l.getD (((atF l id)).toNat) tokE.dflt)).fact]) ++ out), a70, k70⟩ ⟨(by kernel_rfl), (by kernel_rfl), (by kernel_rfl), trivial⟩ ⟨h71, ((l59.trans l62).trans l71), G71, (r71.mono (PH.le_refl _)), hp2⟩ (by first | omega | (dsimp only; omega))
  ·
    skip
    have d72 := bne_false c60
    refine CW.exit ?_
    refine EX.exit_then ?_
    refine EX.exit_then ?_
    refine EX.exit_here ?_
    refine EX.then_code ?_
    refine CW.seq ?_
    refine CW.region ?_
    refine WL.q (.slice ao out.length co) (by kernel_rfl) rfl (by kernel_rfl) (by kernel_rfl) ?_
    refine WL.q (.slice ao out.length co) (by kernel_rfl) rfl (by kernel_rfl) (by kernel_rfl) ?_
    refine WL.nil ?_
    refine EX.then_code ?_
    refine CW.ret ?_
    refine EX.ret1 (v := (.slice ao out.length co)) rfl (by kernel_rfl) ?_
    have hz : id = 0 := by omega
    subst hz
    exact Ret.mk l59 G59 ⟨_, _, by rw [hp.done], by rw [hp.done]; exact (Ho.mono (PH.le_refl _))⟩
end Go.Proofs
