import Derived.Test.YtcogbcnnehkddaaPl
import Derived.Test.YtcogbcnnehkddaaChecked
namespace Go.Proofs
open Go Go.Wk
theorem at_spec {K : Key} {w : World} {h M : PH} (G : Wld K w h M) {al : Option Addr} {l : List Tok} {cl : Nat} (id : Int) (Hl : RS h tokE al l) (hb : l.length ≤ 1000000) :
    Calls Try.prog 8 #[.slice al l.length cl, .int .i64 id] w (Ret K h M fun _ v => v = .int .i64 (atF l id)) := by
  refine enter (l := [(.slice al l.length cl), (.int .i64 id)]) Try.func8 rfl Try.ntmps8 (Nat.le_of_ble_eq_true rfl) ?_
  simp only [params]
  refine CW.seq ?_
  refine CW.region ?_
  refine WL.q (.int .i64 0) (by kernel_rfl) rfl (by kernel_rfl) (by kernel_rfl) ?_
  refine WL.nil ?_
  refine EX.then_code ?_
  refine CW.seq ?_
  refine CW.seq ?_
  refine CW.region ?_
  refine WL.q (.int .i64 0) (by kernel_rfl) rfl (by kernel_rfl) (by kernel_rfl) ?_
  refine WL.nil ?_
  refine EX.then_code ?_
  refine CW.block ?_
  refine CW.loop (β := Nat) (fun x_ => [(0, (.slice al l.length cl)), (1, (.int .i64 id)), (5, (.int .i64 (x_ : Int)))]) (fun x_ w_ => ∃ h_ , (PH.le h h_) ∧ (Wld K w_ h_ M) ∧ (x_ ≤ l.length) ∧ (∀ j < x_, (l.getD j tokE.dflt).id ≠ id)) (fun x_ => l.length - x_) 0 ⟨(by kernel_rfl), (by kernel_rfl), (lk_int (x := 0) (by kernel_rfl) (by first | omega | (dsimp only; done) | (dsimp only; omega))), trivial⟩ ⟨h, (PH.le_refl _), G, (by omega), (by simp)⟩ ?_
  rintro k w1 ⟨h1, l1, G1, hk, hn⟩
  try dsimp only at *
  refine CW.seq ?_
  refine CW.seq ?_
  refine CW.region ?_
  refine WL.q (.int .i64 (k : Int)) (by kernel_rfl) rfl (by kernel_rfl) (by kernel_rfl) ?_
  refine WL.q (.slice al l.length cl) (by kernel_rfl) rfl (by kernel_rfl) (by kernel_rfl) ?_
  refine WL.q (.int .i64 (l.length : Int)) (by kernel_rfl) rfl (by kernel_rfl) (by kernel_rfl) ?_
  refine WL.q (.bool (decide ((k : Int) < (l.length : Int)))) (by kernel_rfl) rfl (by kernel_rfl) (by kernel_rfl) ?_
  refine WL.nil ?_
  refine EX.then_code ?_
  refine CW.cond (decide ((k : Int) < (l.length : Int))) (by kernel_rfl) (by kernel_rfl) (fun c2 => ?_) (fun c2 => ?_)
  ·
    skip
    have d3 := of_decide_eq_true c2
    refine CW.skip ?_
    refine EX.then_code ?_
    refine CW.seq ?_
    refine CW.block ?_
    refine CW.seq ?_
    refine CW.region ?_
    refine WL.q (.slice al l.length cl) (by kernel_rfl) rfl (by kernel_rfl) (by kernel_rfl) ?_
    refine WL.q (.int .i64 (k : Int)) (by kernel_rfl) rfl (by kernel_rfl) (by kernel_rfl) ?_
    refine WL.q (eptr al (k * tokE.sz)) (by kernel_rfl) rfl (by kernel_rfl) (q_indexAddr (i := k) (E := tokE) (xs := l) (e := 34) (c := cl) (k := .i64) (m := l.length) rfl rfl (by kernel_rfl) (by kernel_rfl) (by kernel_rfl) (Hl.mono (l1.trans G1.imm)) (by omega)) ?_
    refine WL.q (eptr al (k * tokE.sz + 0)) (by kernel_rfl) rfl (by kernel_rfl) (q_fieldAddr_e (i := k) (k := k * tokE.sz) (off := 0) rfl (by kernel_rfl) (by kernel_rfl) (Hl.mono (l1.trans G1.imm)) (by omega)) ?_
    refine WL.q (.int .i64 (((l.getD k tokE.dflt)).id)) (by kernel_rfl) rfl (by kernel_rfl) (q_load_e (i := k) (k := 0) (E := tokE) rfl (by kernel_rfl) (by kernel_rfl) (Hl.mono (l1.trans G1.imm)) (by omega) (by decide) (by kernel_rfl)) ?_
    refine WL.q (.int .i64 id) (by kernel_rfl) rfl (by kernel_rfl) (by kernel_rfl) ?_
    refine WL.q (.bool ((((l.getD k tokE.dflt)).id : Int) == id)) (by kernel_rfl) rfl (by kernel_rfl) (by kernel_rfl) ?_
    refine WL.nil ?_
    refine EX.then_code ?_
    refine CW.cond ((((l.getD k tokE.dflt)).id : Int) == id) (by kernel_rfl) (by kernel_rfl) (fun c4 => ?_) (fun c4 => ?_)
    ·
      skip
      have d5 := eq_of_beq c4
      refine CW.seq ?_
      refine CW.region ?_
      refine WL.q (.int .i64 (k : Int)) (by kernel_rfl) rfl (by kernel_rfl) (by kernel_rfl) ?_
      refine WL.q (.int .i64 (k : Int)) (by kernel_rfl) rfl (by kernel_rfl) (by kernel_rfl) ?_
      refine WL.nil ?_
      refine EX.then_code ?_
      refine CW.ret ?_
      refine EX.ret_block ?_
      refine EX.ret_then ?_
      refine EX.ret_then ?_
      refine EX.ret_block ?_
      refine EX.ret_then ?_
      refine EX.ret1 (v := (.int .i64 (k : Int))) rfl (by kernel_rfl) ?_
      exact Ret.mk l1 G1 (congrArg (Value.int .i64) ((atF_some (by omega) hn (by assumption)).symm))
    ·
      skip
      have d6 := ne_of_beq_false c4
      refine CW.skip ?_
      refine EX.in_block ?_
      refine EX.then_code ?_
      refine CW.region ?_
      refine WL.q (.int .i64 (k : Int)) (by kernel_rfl) rfl (by kernel_rfl) (by kernel_rfl) ?_
      refine WL.q (.int .i64 ((k + 1 : Nat) : Int)) (by kernel_rfl) rfl (by kernel_rfl) (q_int (x := IntKind.i64.wrap ((k : Int) + 1)) (by kernel_rfl) (wrap_to (by omega) (by omega) (by omega))) ?_
      refine WL.q (.int .i64 ((k + 1 : Nat) : Int)) (by kernel_rfl) rfl (by kernel_rfl) (by kernel_rfl) ?_
      refine WL.nil ?_
      exact EX.then_loop (k + 1) ⟨(by kernel_rfl), (by kernel_rfl), (lk_int (x := ((k + 1 : Nat) : Int)) (by kernel_rfl) (by first | omega | (dsimp only; done) | (dsimp only; omega))), trivial⟩ ⟨h1, l1, G1, (by omega), (fun j hj => by rcases Nat.lt_or_ge j k with q | q; (exact hn j q); (obtain rfl : j = k := by omega); assumption)⟩ (by first | omega | (dsimp only; omega))
  ·
    skip
    have d7 := of_decide_eq_false c2
    refine CW.exit ?_
    refine EX.exit_then ?_
    refine EX.exit_then ?_
    refine EX.exit_here ?_
    refine EX.then_code ?_
    refine CW.seq ?_
    refine CW.region ?_
    refine WL.q (.int .i64 (-1)) (by kernel_rfl) rfl (by kernel_rfl) (by kernel_rfl) ?_
    refine WL.nil ?_
    refine EX.then_code ?_
    refine CW.ret ?_
    refine EX.ret1 (v := (.int .i64 (-1))) rfl (by kernel_rfl) ?_
    exact Ret.mk l1 G1 (congrArg (Value.int .i64) ((atF_none (fun j hj => hn j (by omega))).symm))

theorem ints_spec {K : Key} {w : World} {h M : PH} (G : Wld K w h M) {ax ay : Option Addr} {xs ys : List Int} {cx cy : Nat} (Hx : RS h intE ax xs) (Hy : RS h intE ay ys) (hb : xs.length ≤ 1000000) :
    Calls Try.prog 10 #[.slice ax xs.length cx, .slice ay ys.length cy] w (Ret K h M fun _ v => v = .bool (decide (xs = ys))) := by
  refine enter (l := [(.slice ax xs.length cx), (.slice ay ys.length cy)]) Try.func10 rfl Try.ntmps10 (Nat.le_of_ble_eq_true rfl) ?_
  simp only [params]
  refine CW.seq ?_
  refine CW.region ?_
  refine WL.q (.bool false) (by kernel_rfl) rfl (by kernel_rfl) (by kernel_rfl) ?_
  refine WL.nil ?_
  refine EX.then_code ?_
  refine CW.seq ?_
  refine CW.seq ?_
  refine CW.region ?_
  refine WL.q (.slice ax xs.length cx) (by kernel_rfl) rfl (by kernel_rfl) (by kernel_rfl) ?_
  refine WL.q (.int .i64 (xs.length : Int)) (by kernel_rfl) rfl (by kernel_rfl) (by kernel_rfl) ?_
  refine WL.q (.slice ay ys.length cy) (by kernel_rfl) rfl (by kernel_rfl) (by kernel_rfl) ?_
  refine WL.q (.int .i64 (ys.length : Int)) (by kernel_rfl) rfl (by kernel_rfl) (by kernel_rfl) ?_
  refine WL.q (.bool (((xs.length : Int) : Int) != (ys.length : Int))) (by kernel_rfl) rfl (by kernel_rfl) (by kernel_rfl) ?_
  refine WL.nil ?_
  refine EX.then_code ?_
  refine CW.cond (((xs.length : Int) : Int) != (ys.length : Int)) (by kernel_rfl) (by kernel_rfl) (fun c8 => ?_) (fun c8 => ?_)
  ·
    skip
    have d9 := bne_true c8
    refine CW.seq ?_
    refine CW.region ?_
    refine WL.q (.bool false) (by kernel_rfl) rfl (by kernel_rfl) (by kernel_rfl) ?_
    refine WL.nil ?_
    refine EX.then_code ?_
    refine CW.ret ?_
    refine EX.ret_then ?_
    refine EX.ret1 (v := (.bool false)) rfl (by kernel_rfl) ?_
    exact Ret.mk (PH.le_refl _) G (congrArg Value.bool ((ints_f (by first | exact .inl (by omega) | exact .inr ⟨k, by omega, by assumption⟩)).symm))
  ·
    skip
    have d10 := bne_false c8
    refine CW.skip ?_
    refine EX.then_code ?_
    refine CW.seq ?_
    refine CW.seq ?_
    refine CW.region ?_
    refine WL.q (.int .i64 0) (by kernel_rfl) rfl (by kernel_rfl) (by kernel_rfl) ?_
    refine WL.nil ?_
    refine EX.then_code ?_
    refine CW.block ?_
    refine CW.loop (β := Nat) (fun x_ => [(0, (.slice ax xs.length cx)), (1, (.slice ay ys.length cy)), (5, (.int .i64 (x_ : Int)))]) (fun x_ w_ => ∃ h_ , (PH.le h h_) ∧ (Wld K w_ h_ M) ∧ (x_ ≤ xs.length) ∧ (∀ j < x_, xs.getD j 0 = ys.getD j 0)) (fun x_ => xs.length - x_) 0 ⟨(by kernel_rfl), (by kernel_rfl), (lk_int (x := 0) (by kernel_rfl) (by first | omega | (dsimp only; done) | (dsimp only; omega))), trivial⟩ ⟨h, (PH.le_refl _), G, (by omega), (by simp)⟩ ?_
    rintro k w11 ⟨h11, l11, G11, hk, hn⟩
    try dsimp only at *
    refine CW.seq ?_
    refine CW.seq ?_
    refine CW.region ?_
    refine WL.q (.int .i64 (k : Int)) (by kernel_rfl) rfl (by kernel_rfl) (by kernel_rfl) ?_
    refine WL.q (.slice ax xs.length cx) (by kernel_rfl) rfl (by kernel_rfl) (by kernel_rfl) ?_
    refine WL.q (.int .i64 (xs.length : Int)) (by kernel_rfl) rfl (by kernel_rfl) (by kernel_rfl) ?_
    refine WL.q (.bool (decide ((k : Int) < (xs.length : Int)))) (by kernel_rfl) rfl (by kernel_rfl) (by kernel_rfl) ?_
    refine WL.nil ?_
    refine EX.then_code ?_
    refine CW.cond (decide ((k : Int) < (xs.length : Int))) (by kernel_rfl) (by kernel_rfl) (fun c12 => ?_) (fun c12 => ?_)
    ·
      skip
      have d13 := of_decide_eq_true c12
      refine CW.skip ?_
      refine EX.then_code ?_
      refine CW.seq ?_
      refine CW.block ?_
      refine CW.seq ?_
      refine CW.draw (by kernel_rfl) [(3, fun w_ => RS (PH.all w_) intE ax xs), (7, fun w_ => RS (PH.all w_) intE ay ys)] ?_
      refine DW.take (T := fun _ => True) 0 (.slice ax xs.length cx) rfl (by kernel_rfl) rfl (by kernel_rfl) (.inl fun _ => trivial) (by kernel_rfl) (Deaf.thens (Deaf.block (Deaf.thens (Deaf.thens (Deaf.block (Deaf.thens (Deaf.body RetM.not_panicked))))))) (fun w_ _ => (by kernel_rfl)) trivial ?_
      refine DW.take (T := fun _ => True) 1 (.int .i64 (k : Int)) rfl (by kernel_rfl) rfl (by kernel_rfl) (.inl fun _ => trivial) (by kernel_rfl) (Deaf.thens (Deaf.block (Deaf.thens (Deaf.thens (Deaf.block (Deaf.thens (Deaf.body RetM.not_panicked))))))) (fun w_ _ => (by kernel_rfl)) trivial ?_
      refine DW.take (T := fun _ => True) 2 (eptr ax (k * intE.sz)) rfl (by kernel_rfl) rfl (by kernel_rfl) (.inl fun _ => trivial) (by kernel_rfl) (Deaf.thens (Deaf.block (Deaf.thens (Deaf.thens (Deaf.block (Deaf.thens (Deaf.body RetM.not_panicked))))))) (fun w_ _ => (q_indexAddr (i := k) (E := intE) (xs := xs) (e := 3) (c := cx) (k := .i64) (m := xs.length) rfl rfl (by kernel_rfl) (by kernel_rfl) (by kernel_rfl) (Hx.mono (l11.trans (G11.drew).imm)) (by omega))) trivial ?_
      refine DW.take (T := fun w_ => RS (PH.all w_) intE ax xs) 3 (.int .i64 (xs.getD k intE.dflt)) rfl (by kernel_rfl) rfl (by kernel_rfl) (.inr (by simp only [List.mem_cons, true_or, or_true])) (by kernel_rfl) (Deaf.thens (Deaf.block (Deaf.thens (Deaf.thens (Deaf.block (Deaf.thens (Deaf.body RetM.not_panicked))))))) (fun w_ T_ => (q_load_e (i := k) (k := 0) (E := intE) rfl (by kernel_rfl) (by kernel_rfl) T_ (by omega) (by decide) (by kernel_rfl))) (Hx.mono (l11.trans (G11.drew).imm)) ?_
      refine DW.take (T := fun _ => True) 4 (.slice ay ys.length cy) rfl (by kernel_rfl) rfl (by kernel_rfl) (.inl fun _ => trivial) (by kernel_rfl) (Deaf.thens (Deaf.block (Deaf.thens (Deaf.thens (Deaf.block (Deaf.thens (Deaf.body RetM.not_panicked))))))) (fun w_ _ => (by kernel_rfl)) trivial ?_
      refine DW.take (T := fun _ => True) 5 (.int .i64 (k : Int)) rfl (by kernel_rfl) rfl (by kernel_rfl) (.inl fun _ => trivial) (by kernel_rfl) (Deaf.thens (Deaf.block (Deaf.thens (Deaf.thens (Deaf.block (Deaf.thens (Deaf.body RetM.not_panicked))))))) (fun w_ _ => (by kernel_rfl)) trivial ?_
      refine DW.take (T := fun _ => True) 6 (eptr ay (k * intE.sz)) rfl (by kernel_rfl) rfl (by kernel_rfl) (.inl fun _ => trivial) (by kernel_rfl) (Deaf.thens (Deaf.block (Deaf.thens (Deaf.thens (Deaf.block (Deaf.thens (Deaf.body RetM.not_panicked))))))) (fun w_ _ => (q_indexAddr (i := k) (E := intE) (xs := ys) (e := 3) (c := cy) (k := .i64) (m := ys.length) rfl rfl (by kernel_rfl) (by kernel_rfl) (by kernel_rfl) (Hy.mono (l11.trans (G11.drew).imm)) (by omega))) trivial ?_
      refine DW.take (T := fun w_ => RS (PH.all w_) intE ay ys) 7 (.int .i64 (ys.getD k intE.dflt)) rfl (by kernel_rfl) rfl (by kernel_rfl) (.inr (by simp only [List.mem_cons, true_or, or_true])) (by kernel_rfl) (Deaf.thens (Deaf.block (Deaf.thens (Deaf.thens (Deaf.block (Deaf.thens (Deaf.body RetM.not_panicked))))))) (fun w_ T_ => (q_load_e (i := k) (k := 0) (E := intE) rfl (by kernel_rfl) (by kernel_rfl) T_ (by omega) (by decide) (by kernel_rfl))) (Hy.mono (l11.trans (G11.drew).imm)) ?_
      refine DW.take (T := fun _ => True) 8 (.bool (((xs.getD k intE.dflt) : Int) != (ys.getD k intE.dflt))) rfl (by kernel_rfl) rfl (by kernel_rfl) (.inl fun _ => trivial) (by kernel_rfl) (Deaf.thens (Deaf.block (Deaf.thens (Deaf.thens (Deaf.block (Deaf.thens (Deaf.body RetM.not_panicked))))))) (fun w_ _ => (by kernel_rfl)) trivial ?_
      refine DW.done (by kernel_rfl) ?_
      refine EX.then_code ?_
      refine CW.cond (((xs.getD k intE.dflt) : Int) != (ys.getD k intE.dflt)) (by kernel_rfl) (by kernel_rfl) (fun c15 => ?_) (fun c15 => ?_)
      ·
        skip
        have d16 := bne_true c15
        refine CW.seq ?_
        refine CW.region ?_
        refine WL.q (.bool false) (by kernel_rfl) rfl (by kernel_rfl) (by kernel_rfl) ?_
        refine WL.nil ?_
        refine EX.then_code ?_
        refine CW.ret ?_
        refine EX.ret_block ?_
        refine EX.ret_then ?_
        refine EX.ret_then ?_
        refine EX.ret_block ?_
        refine EX.ret_then ?_
        refine EX.ret1 (v := (.bool false)) rfl (by kernel_rfl) ?_
        exact Ret.mk l11 (G11.drew) (congrArg Value.bool ((ints_f (by first | exact .inl (by omega) | exact .inr ⟨k, by omega, by assumption⟩)).symm))
      ·
        skip
        have d17 := bne_false c15
        refine CW.skip ?_
        refine EX.in_block ?_
        refine EX.then_code ?_
        refine CW.region ?_
        refine WL.q (.int .i64 (k : Int)) (by kernel_rfl) rfl (by kernel_rfl) (by kernel_rfl) ?_
        refine WL.q (.int .i64 ((k + 1 : Nat) : Int)) (by kernel_rfl) rfl (by kernel_rfl) (q_int (x := IntKind.i64.wrap ((k : Int) + 1)) (by kernel_rfl) (wrap_to (by omega) (by omega) (by omega))) ?_
        refine WL.q (.int .i64 ((k + 1 : Nat) : Int)) (by kernel_rfl) rfl (by kernel_rfl) (by kernel_rfl) ?_
        refine WL.nil ?_
        exact EX.then_loop (k + 1) ⟨(by kernel_rfl), (by kernel_rfl), (lk_int (x := ((k + 1 : Nat) : Int)) (by kernel_rfl) (by first | omega | (dsimp only; done) | (dsimp only; omega))), trivial⟩ ⟨h11, l11, (G11.drew), (by omega), (fun j hj => by rcases Nat.lt_or_ge j k with q | q; (exact hn j q); (obtain rfl : j = k := by omega); assumption)⟩ (by first | omega | (dsimp only; omega))
    ·
      skip
      have d18 := of_decide_eq_false c12
      refine CW.exit ?_
      refine EX.exit_then ?_
      refine EX.exit_then ?_
      refine EX.exit_here ?_
      refine EX.then_code ?_
      refine CW.seq ?_
      refine CW.region ?_
      refine WL.q (.bool true) (by kernel_rfl) rfl (by kernel_rfl) (by kernel_rfl) ?_
      refine WL.nil ?_
      refine EX.then_code ?_
      refine CW.ret ?_
      refine EX.ret1 (v := (.bool true)) rfl (by kernel_rfl) ?_
      exact Ret.mk l11 G11 (congrArg Value.bool ((ints_t (by omega) (fun j hj => hn j (by omega))).symm))
end Go.Proofs
