import Derived.Test.YtaepnhapggdceaaDoorMa
import Derived.Test.YtaepnhapggdceaaDoorLib15
namespace Go.Proofs
open Go Go.Wk
theorem sign_spec {K : Key} {w : World} {h M : PH} (G : Wld K w h M) {c : Nat} (hc : c < 256) :
    Calls Tryd.prog 29 #[.int .u8 (c : Nat)] w (Ret K h M fun _ v => ∃ b, v = .bool b) := by
  refine enter (l := [(.int .u8 (c : Int))]) Tryd.func29 rfl Tryd.ntmps29 (Nat.le_of_ble_eq_true rfl) ?_
  simp only [params]
  refine CW.seq ?_
  refine CW.region ?_
  refine WL.q (.bool false) (by kernel_rfl) rfl (by kernel_rfl) (by kernel_rfl) ?_
  refine WL.nil ?_
  refine EX.then_code ?_
  refine CW.seq ?_
  refine CW.region ?_
  refine WL.q (.int .u8 (c : Int)) (by kernel_rfl) rfl (by kernel_rfl) (by kernel_rfl) ?_
  refine WL.q (.bool (decide ((c : Int) ≥ 33))) (by kernel_rfl) rfl (by kernel_rfl) (by kernel_rfl) ?_
  refine WL.q (.bool (decide ((c : Int) ≥ 33))) (by kernel_rfl) rfl (by kernel_rfl) (by kernel_rfl) ?_
  rcases bool_cases (decide ((c : Int) ≥ 33)) with c1 | c1
  ·
    skip
    have d2 := of_decide_eq_true c1
    refine WL.know 5 (.bool true) (x := .bool (decide ((c : Int) ≥ 33))) (by kernel_rfl) (congrArg Value.bool c1) ?_
    refine WL.q (.int .u8 (c : Int)) (by kernel_rfl) rfl (by kernel_rfl) (by kernel_rfl) ?_
    refine WL.q (.bool (decide ((c : Int) ≤ 126))) (by kernel_rfl) rfl (by kernel_rfl) (by kernel_rfl) ?_
    refine WL.q (.bool (decide ((c : Int) ≤ 126))) (by kernel_rfl) rfl (by kernel_rfl) (by kernel_rfl) ?_
    refine WL.q (.bool (decide ((c : Int) ≤ 126))) (by kernel_rfl) rfl (by kernel_rfl) (by kernel_rfl) ?_
    rcases bool_cases (decide ((c : Int) ≤ 126)) with c3 | c3
    ·
      skip
      have d4 := of_decide_eq_true c3
      refine WL.know 9 (.bool true) (x := .bool (decide ((c : Int) ≤ 126))) (by kernel_rfl) (congrArg Value.bool c3) ?_
      refine WL.q (.int .u8 (c : Int)) (by kernel_rfl) rfl (by kernel_rfl) (by kernel_rfl) ?_
      refine WL.q (.bool (((c : Int) : Int) != 40)) (by kernel_rfl) rfl (by kernel_rfl) (by kernel_rfl) ?_
      refine WL.q (.bool (((c : Int) : Int) != 40)) (by kernel_rfl) rfl (by kernel_rfl) (by kernel_rfl) ?_
      refine WL.q (.bool (((c : Int) : Int) != 40)) (by kernel_rfl) rfl (by kernel_rfl) (by kernel_rfl) ?_
      rcases bool_cases (((c : Int) : Int) != 40) with c5 | c5
      ·
        skip
        have d6 := bne_true c5
        refine WL.know 13 (.bool true) (x := .bool (((c : Int) : Int) != 40)) (by kernel_rfl) (congrArg Value.bool c5) ?_
        refine WL.q (.int .u8 (c : Int)) (by kernel_rfl) rfl (by kernel_rfl) (by kernel_rfl) ?_
        refine WL.q (.bool (((c : Int) : Int) != 41)) (by kernel_rfl) rfl (by kernel_rfl) (by kernel_rfl) ?_
        refine WL.q (.bool (((c : Int) : Int) != 41)) (by kernel_rfl) rfl (by kernel_rfl) (by kernel_rfl) ?_
        refine WL.q (.bool (((c : Int) : Int) != 41)) (by kernel_rfl) rfl (by kernel_rfl) (by kernel_rfl) ?_
        rcases bool_cases (((c : Int) : Int) != 41) with c7 | c7
        ·
          skip
          have d8 := bne_true c7
          refine WL.know 17 (.bool true) (x := .bool (((c : Int) : Int) != 41)) (by kernel_rfl) (congrArg Value.bool c7) ?_
          refine WL.q (.int .u8 (c : Int)) (by kernel_rfl) rfl (by kernel_rfl) (by kernel_rfl) ?_
          refine WL.q (.bool (((c : Int) : Int) != 34)) (by kernel_rfl) rfl (by kernel_rfl) (by kernel_rfl) ?_
          refine WL.q (.bool (((c : Int) : Int) != 34)) (by kernel_rfl) rfl (by kernel_rfl) (by kernel_rfl) ?_
          refine WL.q (.bool (((c : Int) : Int) != 34)) (by kernel_rfl) rfl (by kernel_rfl) (by kernel_rfl) ?_
          rcases bool_cases (((c : Int) : Int) != 34) with c9 | c9
          ·
            skip
            have d10 := bne_true c9
            refine WL.know 21 (.bool true) (x := .bool (((c : Int) : Int) != 34)) (by kernel_rfl) (congrArg Value.bool c9) ?_
            refine WL.q (.int .u8 (c : Int)) (by kernel_rfl) rfl (by kernel_rfl) (by kernel_rfl) ?_
            refine WL.q (.bool (((c : Int) : Int) != 59)) (by kernel_rfl) rfl (by kernel_rfl) (by kernel_rfl) ?_
            refine WL.q (.bool (((c : Int) : Int) != 59)) (by kernel_rfl) rfl (by kernel_rfl) (by kernel_rfl) ?_
            refine WL.q (.bool (((c : Int) : Int) != 59)) (by kernel_rfl) rfl (by kernel_rfl) (by kernel_rfl) ?_
            rcases bool_cases (((c : Int) : Int) != 59) with c11 | c11
            ·
              skip
              have d12 := bne_true c11
              refine WL.know 25 (.bool true) (x := .bool (((c : Int) : Int) != 59)) (by kernel_rfl) (congrArg Value.bool c11) ?_
              refine WL.q (.int .u8 (c : Int)) (by kernel_rfl) rfl (by kernel_rfl) (by kernel_rfl) ?_
              refine WL.q (.bool (((c : Int) : Int) != 63)) (by kernel_rfl) rfl (by kernel_rfl) (by kernel_rfl) ?_
              refine WL.q (.bool (((c : Int) : Int) != 63)) (by kernel_rfl) rfl (by kernel_rfl) (by kernel_rfl) ?_
              refine WL.q (.bool (((c : Int) : Int) != 63)) (by kernel_rfl) rfl (by kernel_rfl) (by kernel_rfl) ?_
              rcases bool_cases (((c : Int) : Int) != 63) with c13 | c13
              ·
                skip
                have d14 := bne_true c13
                refine WL.know 29 (.bool true) (x := .bool (((c : Int) : Int) != 63)) (by kernel_rfl) (congrArg Value.bool c13) ?_
                refine WL.q (.int .u8 (c : Int)) (by kernel_rfl) rfl (by kernel_rfl) (by kernel_rfl) ?_
                refine WL.q (.bool (((c : Int) : Int) != 126)) (by kernel_rfl) rfl (by kernel_rfl) (by kernel_rfl) ?_
                refine WL.q (.bool (((c : Int) : Int) != 126)) (by kernel_rfl) rfl (by kernel_rfl) (by kernel_rfl) ?_
                refine WL.q (.bool (((c : Int) : Int) != 126)) (by kernel_rfl) rfl (by kernel_rfl) (by kernel_rfl) ?_
                refine WL.nil ?_
                refine EX.then_code ?_
                refine CW.ret ?_
                refine EX.ret1 (v := (.bool (((c : Int) : Int) != 126))) rfl (by kernel_rfl) ?_
                exact Ret.mk (PH.le_refl _) G (⟨_, rfl⟩)
              ·
                skip
                have d15 := bne_false c13
                refine WL.know 29 (.bool false) (x := .bool (((c : Int) : Int) != 63)) (by kernel_rfl) (congrArg Value.bool c13) ?_
                refine WL.skip (by kernel_rfl) rfl (by kernel_rfl) ?_
                refine WL.skip (by kernel_rfl) rfl (by kernel_rfl) ?_
                refine WL.q (.bool false) (by kernel_rfl) rfl (by kernel_rfl) (by kernel_rfl) ?_
                refine WL.q (.bool false) (by kernel_rfl) rfl (by kernel_rfl) (by kernel_rfl) ?_
                refine WL.nil ?_
                refine EX.then_code ?_
                refine CW.ret ?_
                refine EX.ret1 (v := (.bool false)) rfl (by kernel_rfl) ?_
                exact Ret.mk (PH.le_refl _) G (⟨_, rfl⟩)
            ·
              skip
              have d16 := bne_false c11
              refine WL.know 25 (.bool false) (x := .bool (((c : Int) : Int) != 59)) (by kernel_rfl) (congrArg Value.bool c11) ?_
              refine WL.skip (by kernel_rfl) rfl (by kernel_rfl) ?_
              refine WL.skip (by kernel_rfl) rfl (by kernel_rfl) ?_
              refine WL.q (.bool false) (by kernel_rfl) rfl (by kernel_rfl) (by kernel_rfl) ?_
              refine WL.q (.bool false) (by kernel_rfl) rfl (by kernel_rfl) (by kernel_rfl) ?_
              refine WL.skip (by kernel_rfl) rfl (by kernel_rfl) ?_
              refine WL.skip (by kernel_rfl) rfl (by kernel_rfl) ?_
              refine WL.q (.bool false) (by kernel_rfl) rfl (by kernel_rfl) (by kernel_rfl) ?_
              refine WL.q (.bool false) (by kernel_rfl) rfl (by kernel_rfl) (by kernel_rfl) ?_
              refine WL.nil ?_
              refine EX.then_code ?_
              refine CW.ret ?_
              refine EX.ret1 (v := (.bool false)) rfl (by kernel_rfl) ?_
              exact Ret.mk (PH.le_refl _) G (⟨_, rfl⟩)
          ·
            skip
            have d17 := bne_false c9
            refine WL.know 21 (.bool false) (x := .bool (((c : Int) : Int) != 34)) (by kernel_rfl) (congrArg Value.bool c9) ?_
            refine WL.skip (by kernel_rfl) rfl (by kernel_rfl) ?_
            refine WL.skip (by kernel_rfl) rfl (by kernel_rfl) ?_
            refine WL.q (.bool false) (by kernel_rfl) rfl (by kernel_rfl) (by kernel_rfl) ?_
            refine WL.q (.bool false) (by kernel_rfl) rfl (by kernel_rfl) (by kernel_rfl) ?_
            refine WL.skip (by kernel_rfl) rfl (by kernel_rfl) ?_
            refine WL.skip (by kernel_rfl) rfl (by kernel_rfl) ?_
            refine WL.q (.bool false) (by kernel_rfl) rfl (by kernel_rfl) (by kernel_rfl) ?_
            refine WL.q (.bool false) (by kernel_rfl) rfl (by kernel_rfl) (by kernel_rfl) ?_
            refine WL.skip (by kernel_rfl) rfl (by kernel_rfl) ?_
            refine WL.skip (by kernel_rfl) rfl (by kernel_rfl) ?_
            refine WL.q (.bool false) (by kernel_rfl) rfl (by kernel_rfl) (by kernel_rfl) ?_
            refine WL.q (.bool false) (by kernel_rfl) rfl (by kernel_rfl) (by kernel_rfl) ?_
            refine WL.nil ?_
            refine EX.then_code ?_
            refine CW.ret ?_
            refine EX.ret1 (v := (.bool false)) rfl (by kernel_rfl) ?_
            exact Ret.mk (PH.le_refl _) G (⟨_, rfl⟩)
        ·
          skip
          have d18 := bne_false c7
          refine WL.know 17 (.bool false) (x := .bool (((c : Int) : Int) != 41)) (by kernel_rfl) (congrArg Value.bool c7) ?_
          refine WL.skip (by kernel_rfl) rfl (by kernel_rfl) ?_
          refine WL.skip (by kernel_rfl) rfl (by kernel_rfl) ?_
          refine WL.q (.bool false) (by kernel_rfl) rfl (by kernel_rfl) (by kernel_rfl) ?_
          refine WL.q (.bool false) (by kernel_rfl) rfl (by kernel_rfl) (by kernel_rfl) ?_
          refine WL.skip (by kernel_rfl) rfl (by kernel_rfl) ?_
          refine WL.skip (by kernel_rfl) rfl (by kernel_rfl) ?_
          refine WL.q (.bool false) (by kernel_rfl) rfl (by kernel_rfl) (by kernel_rfl) ?_
          refine WL.q (.bool false) (by kernel_rfl) rfl (by kernel_rfl) (by kernel_rfl) ?_
          refine WL.skip (by kernel_rfl) rfl (by kernel_rfl) ?_
          refine WL.skip (by kernel_rfl) rfl (by kernel_rfl) ?_
          refine WL.q (.bool false) (by kernel_rfl) rfl (by kernel_rfl) (by kernel_rfl) ?_
          refine WL.q (.bool false) (by kernel_rfl) rfl (by kernel_rfl) (by kernel_rfl) ?_
          refine WL.skip (by kernel_rfl) rfl (by kernel_rfl) ?_
          refine WL.skip (by kernel_rfl) rfl (by kernel_rfl) ?_
          refine WL.q (.bool false) (by kernel_rfl) rfl (by kernel_rfl) (by kernel_rfl) ?_
          refine WL.q (.bool false) (by kernel_rfl) rfl (by kernel_rfl) (by kernel_rfl) ?_
          refine WL.nil ?_
          refine EX.then_code ?_
          refine CW.ret ?_
          refine EX.ret1 (v := (.bool false)) rfl (by kernel_rfl) ?_
          exact Ret.mk (PH.le_refl _) G (⟨_, rfl⟩)
      ·
        skip
        have d19 := bne_false c5
        refine WL.know 13 (.bool false) (x := .bool (((c : Int) : Int) != 40)) (by kernel_rfl) (congrArg Value.bool c5) ?_
        refine WL.skip (by kernel_rfl) rfl (by kernel_rfl) ?_
        refine WL.skip (by kernel_rfl) rfl (by kernel_rfl) ?_
        refine WL.q (.bool false) (by kernel_rfl) rfl (by kernel_rfl) (by kernel_rfl) ?_
        refine WL.q (.bool false) (by kernel_rfl) rfl (by kernel_rfl) (by kernel_rfl) ?_
        refine WL.skip (by kernel_rfl) rfl (by kernel_rfl) ?_
        refine WL.skip (by kernel_rfl) rfl (by kernel_rfl) ?_
        refine WL.q (.bool false) (by kernel_rfl) rfl (by kernel_rfl) (by kernel_rfl) ?_
        refine WL.q (.bool false) (by kernel_rfl) rfl (by kernel_rfl) (by kernel_rfl) ?_
        refine WL.skip (by kernel_rfl) rfl (by kernel_rfl) ?_
        refine WL.skip (by kernel_rfl) rfl (by kernel_rfl) ?_
        refine WL.q (.bool false) (by kernel_rfl) rfl (by kernel_rfl) (by kernel_rfl) ?_
        refine WL.q (.bool false) (by kernel_rfl) rfl (by kernel_rfl) (by kernel_rfl) ?_
        refine WL.skip (by kernel_rfl) rfl (by kernel_rfl) ?_
        refine WL.skip (by kernel_rfl) rfl (by kernel_rfl) ?_
        refine WL.q (.bool false) (by kernel_rfl) rfl (by kernel_rfl) (by kernel_rfl) ?_
        refine WL.q (.bool false) (by kernel_rfl) rfl (by kernel_rfl) (by kernel_rfl) ?_
        refine WL.skip (by kernel_rfl) rfl (by kernel_rfl) ?_
        refine WL.skip (by kernel_rfl) rfl (by kernel_rfl) ?_
        refine WL.q (.bool false) (by kernel_rfl) rfl (by kernel_rfl) (by kernel_rfl) ?_
        refine WL.q (.bool false) (by kernel_rfl) rfl (by kernel_rfl) (by kernel_rfl) ?_
        refine WL.nil ?_
        refine EX.then_code ?_
        refine CW.ret ?_
        refine EX.ret1 (v := (.bool false)) rfl (by kernel_rfl) ?_
        exact Ret.mk (PH.le_refl _) G (⟨_, rfl⟩)
    ·
      skip
      have d20 := of_decide_eq_false c3
      refine WL.know 9 (.bool false) (x := .bool (decide ((c : Int) ≤ 126))) (by kernel_rfl) (congrArg Value.bool c3) ?_
      refine WL.skip (by kernel_rfl) rfl (by kernel_rfl) ?_
      refine WL.skip (by kernel_rfl) rfl (by kernel_rfl) ?_
      refine WL.q (.bool false) (by kernel_rfl) rfl (by kernel_rfl) (by kernel_rfl) ?_
      refine WL.q (.bool false) (by kernel_rfl) rfl (by kernel_rfl) (by kernel_rfl) ?_
      refine WL.skip (by kernel_rfl) rfl (by kernel_rfl) ?_
      refine WL.skip (by kernel_rfl) rfl (by kernel_rfl) ?_
      refine WL.q (.bool false) (by kernel_rfl) rfl (by kernel_rfl) (by kernel_rfl) ?_
      refine WL.q (.bool false) (by kernel_rfl) rfl (by kernel_rfl) (by kernel_rfl) ?_
      refine WL.skip (by kernel_rfl) rfl (by kernel_rfl) ?_
      refine WL.skip (by kernel_rfl) rfl (by kernel_rfl) ?_
      refine WL.q (.bool false) (by kernel_rfl) rfl (by kernel_rfl) (by kernel_rfl) ?_
      refine WL.q (.bool false) (by kernel_rfl) rfl (by kernel_rfl) (by kernel_rfl) ?_
      refine WL.skip (by kernel_rfl) rfl (by kernel_rfl) ?_
      refine WL.skip (by kernel_rfl) rfl (by kernel_rfl) ?_
      refine WL.q (.bool false) (by kernel_rfl) rfl (by kernel_rfl) (by kernel_rfl) ?_
      refine WL.q (.bool false) (by kernel_rfl) rfl (by kernel_rfl) (by kernel_rfl) ?_
      refine WL.skip (by kernel_rfl) rfl (by kernel_rfl) ?_
      refine WL.skip (by kernel_rfl) rfl (by kernel_rfl) ?_
      refine WL.q (.bool false) (by kernel_rfl) rfl (by kernel_rfl) (by kernel_rfl) ?_
      refine WL.q (.bool false) (by kernel_rfl) rfl (by kernel_rfl) (by kernel_rfl) ?_
      refine WL.skip (by kernel_rfl) rfl (by kernel_rfl) ?_
      refine WL.skip (by kernel_rfl) rfl (by kernel_rfl) ?_
      refine WL.q (.bool false) (by kernel_rfl) rfl (by kernel_rfl) (by kernel_rfl) ?_
      refine WL.q (.bool false) (by kernel_rfl) rfl (by kernel_rfl) (by kernel_rfl) ?_
      refine WL.nil ?_
      refine EX.then_code ?_
      refine CW.ret ?_
      refine EX.ret1 (v := (.bool false)) rfl (by kernel_rfl) ?_
      exact Ret.mk (PH.le_refl _) G (⟨_, rfl⟩)
  ·
    skip
    have d21 := of_decide_eq_false c1
    refine WL.know 5 (.bool false) (x := .bool (decide ((c : Int) ≥ 33))) (by kernel_rfl) (congrArg Value.bool c1) ?_
    refine WL.skip (by kernel_rfl) rfl (by kernel_rfl) ?_
    refine WL.skip (by kernel_rfl) rfl (by kernel_rfl) ?_
    refine WL.q (.bool false) (by kernel_rfl) rfl (by kernel_rfl) (by kernel_rfl) ?_
    refine WL.q (.bool false) (by kernel_rfl) rfl (by kernel_rfl) (by kernel_rfl) ?_
    refine WL.skip (by kernel_rfl) rfl (by kernel_rfl) ?_
    refine WL.skip (by kernel_rfl) rfl (by kernel_rfl) ?_
    refine WL.q (.bool false) (by kernel_rfl) rfl (by kernel_rfl) (by kernel_rfl) ?_
    refine WL.q (.bool false) (by kernel_rfl) rfl (by kernel_rfl) (by kernel_rfl) ?_
    refine WL.skip (by kernel_rfl) rfl (by kernel_rfl) ?_
    refine WL.skip (by kernel_rfl) rfl (by kernel_rfl) ?_
    refine WL.q (.bool false) (by kernel_rfl) rfl (by kernel_rfl) (by kernel_rfl) ?_
    refine WL.q (.bool false) (by kernel_rfl) rfl (by kernel_rfl) (by kernel_rfl) ?_
    refine WL.skip (by kernel_rfl) rfl (by kernel_rfl) ?_
    refine WL.skip (by kernel_rfl) rfl (by kernel_rfl) ?_
    refine WL.q (.bool false) (by kernel_rfl) rfl (by kernel_rfl) (by kernel_rfl) ?_
    refine WL.q (.bool false) (by kernel_rfl) rfl (by kernel_rfl) (by kernel_rfl) ?_
    refine WL.skip (by kernel_rfl) rfl (by kernel_rfl) ?_
    refine WL.skip (by kernel_rfl) rfl (by kernel_rfl) ?_
    refine WL.q (.bool false) (by kernel_rfl) rfl (by kernel_rfl) (by kernel_rfl) ?_
    refine WL.q (.bool false) (by kernel_rfl) rfl (by kernel_rfl) (by kernel_rfl) ?_
    refine WL.skip (by kernel_rfl) rfl (by kernel_rfl) ?_
    refine WL.skip (by kernel_rfl) rfl (by kernel_rfl) ?_
    refine WL.q (.bool false) (by kernel_rfl) rfl (by kernel_rfl) (by kernel_rfl) ?_
    refine WL.q (.bool false) (by kernel_rfl) rfl (by kernel_rfl) (by kernel_rfl) ?_
    refine WL.skip (by kernel_rfl) rfl (by kernel_rfl) ?_
    refine WL.skip (by kernel_rfl) rfl (by kernel_rfl) ?_
    refine WL.q (.bool false) (by kernel_rfl) rfl (by kernel_rfl) (by kernel_rfl) ?_
    refine WL.q (.bool false) (by kernel_rfl) rfl (by kernel_rfl) (by kernel_rfl) ?_
    refine WL.nil ?_
    refine EX.then_code ?_
    refine CW.ret ?_
    refine EX.ret1 (v := (.bool false)) rfl (by kernel_rfl) ?_
    exact Ret.mk (PH.le_refl _) G (⟨_, rfl⟩)

theorem shape_spec {K : Key} {w : World} {h M : PH} (G : Wld K w h M) {s : ByteArray} (hs : s.size ≤ 1000000) :
    Calls Tryd.prog 28 #[.string s] w (Ret K h M fun _ v => ∃ b, v = .bool b) := by
  refine enter (l := [(.string s)]) Tryd.func28 rfl Tryd.ntmps28 (Nat.le_of_ble_eq_true rfl) ?_
  simp only [params]
  refine CW.seq ?_
  refine CW.region ?_
  refine WL.q (.bool false) (by kernel_rfl) rfl (by kernel_rfl) (by kernel_rfl) ?_
  refine WL.nil ?_
  refine EX.then_code ?_
  refine CW.seq ?_
  refine CW.region ?_
  refine WL.q (.int .i64 0) (by kernel_rfl) rfl (by kernel_rfl) (by kernel_rfl) ?_
  refine WL.nil ?_
  refine EX.then_code ?_
  refine CW.seq ?_
  refine CW.seq ?_
  refine CW.region ?_
  refine WL.q (.string s) (by kernel_rfl) rfl (by kernel_rfl) (by kernel_rfl) ?_
  refine WL.q (.int .i64 (s.size : Int)) (by kernel_rfl) rfl (by kernel_rfl) (by kernel_rfl) ?_
  refine WL.q (.bool (decide ((s.size : Int) > 0))) (by kernel_rfl) rfl (by kernel_rfl) (by kernel_rfl) ?_
  refine WL.q (.bool (decide ((s.size : Int) > 0))) (by kernel_rfl) rfl (by kernel_rfl) (by kernel_rfl) ?_
  rcases bool_cases (decide ((s.size : Int) > 0)) with c22 | c22
  ·
    skip
    have d23 := of_decide_eq_true c22
    refine WL.know 8 (.bool true) (x := .bool (decide ((s.size : Int) > 0))) (by kernel_rfl) (congrArg Value.bool c22) ?_
    refine WL.q (.string s) (by kernel_rfl) rfl (by kernel_rfl) (by kernel_rfl) ?_
    refine WL.q (.int .u8 (byteAt s 0 : Int)) (by kernel_rfl) rfl (by kernel_rfl) (q_strIndex (s := s) (k := .i64) (i := 0) rfl (by kernel_rfl) (by kernel_rfl) (by kernel_rfl) (by omega)) ?_
    refine WL.q (.bool (((byteAt s 0 : Int) : Int) == 43)) (by kernel_rfl) rfl (by kernel_rfl) (by kernel_rfl) ?_
    refine WL.q (.bool (((byteAt s 0 : Int) : Int) == 43)) (by kernel_rfl) rfl (by kernel_rfl) (by kernel_rfl) ?_
    rcases bool_cases (((byteAt s 0 : Int) : Int) == 43) with c24 | c24
    ·
      skip
      have d25 := eq_of_beq c24
      refine WL.know 12 (.bool true) (x := .bool (((byteAt s 0 : Int) : Int) == 43)) (by kernel_rfl) (congrArg Value.bool c24) ?_
      refine WL.skip (by kernel_rfl) rfl (by kernel_rfl) ?_
      refine WL.skip (by kernel_rfl) rfl (by kernel_rfl) ?_
      refine WL.skip (by kernel_rfl) rfl (by kernel_rfl) ?_
      refine WL.q (.bool true) (by kernel_rfl) rfl (by kernel_rfl) (by kernel_rfl) ?_
      refine WL.q (.bool true) (by kernel_rfl) rfl (by kernel_rfl) (by kernel_rfl) ?_
      refine WL.nil ?_
      refine EX.then_code ?_
      refine CW.cond_t (by kernel_rfl) (by kernel_rfl) ?_
      refine CW.region ?_
      refine WL.q (.int .i64 1) (by kernel_rfl) rfl (by kernel_rfl) (by kernel_rfl) ?_
      refine WL.nil ?_
      refine EX.then_code ?_
      refine CW.seq ?_
      refine CW.seq ?_
      refine CW.region ?_
      refine WL.q (.int .i64 1) (by kernel_rfl) rfl (by kernel_rfl) (by kernel_rfl) ?_
      refine WL.q (.int .i64 1) (by kernel_rfl) rfl (by kernel_rfl) (by kernel_rfl) ?_
      refine WL.nil ?_
      refine EX.then_code ?_
      refine CW.block ?_
      refine CW.loop (β := Nat) (fun x_ => [(0, (.string s)), (3, (.int .i64 1)), (4, (.int .i64 (x_ : Int)))]) (fun x_ w_ => ∃ h_, (PH.le h h_) ∧ (Wld K w_ h_ M)) (fun x_ => s.size - x_) 1 ⟨(by kernel_rfl), (by kernel_rfl), (lk_int (x := 1) (by kernel_rfl) (by first | omega | (dsimp only; done) | (dsimp only; omega))), trivial⟩ ⟨h, (PH.le_refl _), G⟩ ?_
      rintro k w26 ⟨h26, l26, G26⟩
      try dsimp only at *
      refine CW.seq ?_
      refine CW.seq ?_
      refine CW.region ?_
      refine WL.q (.int .i64 (k : Int)) (by kernel_rfl) rfl (by kernel_rfl) (by kernel_rfl) ?_
      refine WL.q (.string s) (by kernel_rfl) rfl (by kernel_rfl) (by kernel_rfl) ?_
      refine WL.q (.int .i64 (s.size : Int)) (by kernel_rfl) rfl (by kernel_rfl) (by kernel_rfl) ?_
      refine WL.q (.bool (decide ((k : Int) < (s.size : Int)))) (by kernel_rfl) rfl (by kernel_rfl) (by kernel_rfl) ?_
      refine WL.nil ?_
      refine EX.then_code ?_
      refine CW.cond (decide ((k : Int) < (s.size : Int))) (by kernel_rfl) (by kernel_rfl) (fun c27 => ?_) (fun c27 => ?_)
      ·
        skip
        have d28 := of_decide_eq_true c27
        refine CW.skip ?_
        refine EX.then_code ?_
        refine CW.seq ?_
        refine CW.block ?_
        refine CW.seq ?_
        refine CW.region ?_
        refine WL.q (.string s) (by kernel_rfl) rfl (by kernel_rfl) (by kernel_rfl) ?_
        refine WL.q (.int .i64 (k : Int)) (by kernel_rfl) rfl (by kernel_rfl) (by kernel_rfl) ?_
        refine WL.q (.int .u8 (byteAt s k : Int)) (by kernel_rfl) rfl (by kernel_rfl) (q_strIndex (s := s) (k := .i64) (i := k) rfl (by kernel_rfl) (by kernel_rfl) (by kernel_rfl) (by omega)) ?_
        refine WL.q (.bool (decide ((byteAt s k : Int) < 48))) (by kernel_rfl) rfl (by kernel_rfl) (by kernel_rfl) ?_
        refine WL.q (.bool (decide ((byteAt s k : Int) < 48))) (by kernel_rfl) rfl (by kernel_rfl) (by kernel_rfl) ?_
        rcases bool_cases (decide ((byteAt s k : Int) < 48)) with c29 | c29
        ·
          skip
          have d30 := of_decide_eq_true c29
          refine WL.know 29 (.bool true) (x := .bool (decide ((byteAt s k : Int) < 48))) (by kernel_rfl) (congrArg Value.bool c29) ?_
          refine WL.skip (by kernel_rfl) rfl (by kernel_rfl) ?_
          refine WL.skip (by kernel_rfl) rfl (by kernel_rfl) ?_
          refine WL.skip (by kernel_rfl) rfl (by kernel_rfl) ?_
          refine WL.skip (by kernel_rfl) rfl (by kernel_rfl) ?_
          refine WL.q (.bool true) (by kernel_rfl) rfl (by kernel_rfl) (by kernel_rfl) ?_
          refine WL.nil ?_
          refine EX.then_code ?_
          refine CW.cond_t (by kernel_rfl) (by kernel_rfl) ?_
          refine CW.seq ?_
          refine CW.region ?_
          refine WL.q (.bool false) (by kernel_rfl) rfl (by kernel_rfl) (by kernel_rfl) ?_
          refine WL.nil ?_
          refine EX.then_code ?_
          refine CW.ret ?_
          refine EX.ret_block ?_
          refine EX.ret_then ?_
          refine EX.ret_then ?_
          refine EX.ret_block ?_
          refine EX.ret_then ?_
          refine EX.ret1 (v := (.bool false)) rfl (by kernel_rfl) ?_
          exact Ret.mk l26 G26 (⟨_, rfl⟩)
        ·
          skip
          have d31 := of_decide_eq_false c29
          refine WL.know 29 (.bool false) (x := .bool (decide ((byteAt s k : Int) < 48))) (by kernel_rfl) (congrArg Value.bool c29) ?_
          refine WL.q (.string s) (by kernel_rfl) rfl (by kernel_rfl) (by kernel_rfl) ?_
          refine WL.q (.int .i64 (k : Int)) (by kernel_rfl) rfl (by kernel_rfl) (by kernel_rfl) ?_
          refine WL.q (.int .u8 (byteAt s k : Int)) (by kernel_rfl) rfl (by kernel_rfl) (q_strIndex (s := s) (k := .i64) (i := k) rfl (by kernel_rfl) (by kernel_rfl) (by kernel_rfl) (by omega)) ?_
          refine WL.q (.bool (decide ((byteAt s k : Int) > 57))) (by kernel_rfl) rfl (by kernel_rfl) (by kernel_rfl) ?_
          refine WL.q (.bool (decide ((byteAt s k : Int) > 57))) (by kernel_rfl) rfl (by kernel_rfl) (by kernel_rfl) ?_
          refine WL.nil ?_
          refine EX.then_code ?_
          refine CW.cond (decide ((byteAt s k : Int) > 57)) (by kernel_rfl) (by kernel_rfl) (fun c32 => ?_) (fun c32 => ?_)
          ·
            skip
            have d33 := of_decide_eq_true c32
            refine CW.seq ?_
            refine CW.region ?_
            refine WL.q (.bool false) (by kernel_rfl) rfl (by kernel_rfl) (by kernel_rfl) ?_
            refine WL.nil ?_
            refine EX.then_code ?_
            refine CW.ret ?_
            refine EX.ret_block ?_
            refine EX.ret_then ?_
            refine EX.ret_then ?_
            refine EX.ret_block ?_
            refine EX.ret_then ?_
            refine EX.ret1 (v := (.bool false)) rfl (by kernel_rfl) ?_
            exact Ret.mk l26 G26 (⟨_, rfl⟩)
          ·
            skip
            have d34 := of_decide_eq_false c32
            refine CW.skip ?_
            refine EX.in_block ?_
            refine EX.then_code ?_
            refine CW.region ?_
            refine WL.q (.int .i64 (k : Int)) (by kernel_rfl) rfl (by kernel_rfl) (by kernel_rfl) ?_
            refine WL.q (.int .i64 ((k + 1 : Nat) : Int)) (by kernel_rfl) rfl (by kernel_rfl) (q_int (x := IntKind.i64.wrap ((k : Int) + 1)) (by kernel_rfl) (wrap_to (by omega) (by omega) (by omega))) ?_
            refine WL.q (.int .i64 ((k + 1 : Nat) : Int)) (by kernel_rfl) rfl (by kernel_rfl) (by kernel_rfl) ?_
            refine WL.nil ?_
            exact EX.then_loop (k + 1) ⟨(by kernel_rfl), (by kernel_rfl), (lk_int (x := ((k + 1 : Nat) : Int)) (by kernel_rfl) (by first | omega | (dsimp only; done) | (dsimp only; omega))), trivial⟩ ⟨h26, l26, G26⟩ (by first | omega | (dsimp only; omega))
      ·
        skip
        have d35 := of_decide_eq_false c27
        refine CW.exit ?_
        refine EX.exit_then ?_
        refine EX.exit_then ?_
        refine EX.exit_here ?_
        refine EX.then_code ?_
        refine CW.seq ?_
        refine CW.region ?_
        refine WL.q (.string s) (by kernel_rfl) rfl (by kernel_rfl) (by kernel_rfl) ?_
        refine WL.q (.int .i64 (s.size : Int)) (by kernel_rfl) rfl (by kernel_rfl) (by kernel_rfl) ?_
        refine WL.q (.int .i64 1) (by kernel_rfl) rfl (by kernel_rfl) (by kernel_rfl) ?_
        refine WL.q (.bool (decide ((s.size : Int) > 1))) (by kernel_rfl) rfl (by kernel_rfl) (by kernel_rfl) ?_
        refine WL.q (.bool (decide ((s.size : Int) > 1))) (by kernel_rfl) rfl (by kernel_rfl) (by kernel_rfl) ?_
        refine WL.nil ?_
        refine EX.then_code ?_
        refine CW.ret ?_
        refine EX.ret1 (v := (.bool (decide ((s.size : Int) > 1)))) rfl (by kernel_rfl) ?_
        exact Ret.mk l26 G26 (⟨_, rfl⟩)
    ·
      skip
      have d36 := ne_of_beq_false c24
      refine WL.know 12 (.bool false) (x := .bool (((byteAt s 0 : Int) : Int) == 43)) (by kernel_rfl) (congrArg Value.bool c24) ?_
      refine WL.q (.string s) (by kernel_rfl) rfl (by kernel_rfl) (by kernel_rfl) ?_
      refine WL.q (.int .u8 (byteAt s 0 : Int)) (by kernel_rfl) rfl (by kernel_rfl) (q_strIndex (s := s) (k := .i64) (i := 0) rfl (by kernel_rfl) (by kernel_rfl) (by kernel_rfl) (by omega)) ?_
      refine WL.q (.bool (((byteAt s 0 : Int) : Int) == 45)) (by kernel_rfl) rfl (by kernel_rfl) (by kernel_rfl) ?_
      refine WL.q (.bool (((byteAt s 0 : Int) : Int) == 45)) (by kernel_rfl) rfl (by kernel_rfl) (by kernel_rfl) ?_
      refine WL.q (.bool (((byteAt s 0 : Int) : Int) == 45)) (by kernel_rfl) rfl (by kernel_rfl) (by kernel_rfl) ?_
      refine WL.nil ?_
      refine EX.then_code ?_
      refine CW.cond (((byteAt s 0 : Int) : Int) == 45) (by kernel_rfl) (by kernel_rfl) (fun c37 => ?_) (fun c37 => ?_)
      ·
        skip
        have d38 := eq_of_beq c37
        refine CW.region ?_
        refine WL.q (.int .i64 1) (by kernel_rfl) rfl (by kernel_rfl) (by kernel_rfl) ?_
        refine WL.nil ?_
        refine EX.then_code ?_
        refine CW.seq ?_
        refine CW.seq ?_
        refine CW.region ?_
        refine WL.q (.int .i64 1) (by kernel_rfl) rfl (by kernel_rfl) (by kernel_rfl) ?_
        refine WL.q (.int .i64 1) (by kernel_rfl) rfl (by kernel_rfl) (by kernel_rfl) ?_
        refine WL.nil ?_
        refine EX.then_code ?_
        refine CW.block ?_
        refine CW.loop (β := Nat) (fun x_ => [(0, (.string s)), (3, (.int .i64 1)), (4, (.int .i64 (x_ : Int)))]) (fun x_ w_ => ∃ h_, (PH.le h h_) ∧ (Wld K w_ h_ M)) (fun x_ => s.size - x_) 1 ⟨(by kernel_rfl), (by kernel_rfl), (lk_int (x := 1) (by kernel_rfl) (by first | omega | (dsimp only; done) | (dsimp only; omega))), trivial⟩ ⟨h, (PH.le_refl _), G⟩ ?_
        rintro k w39 ⟨h39, l39, G39⟩
        try dsimp only at *
        refine CW.seq ?_
        refine CW.seq ?_
        refine CW.region ?_
        refine WL.q (.int .i64 (k : Int)) (by kernel_rfl) rfl (by kernel_rfl) (by kernel_rfl) ?_
        refine WL.q (.string s) (by kernel_rfl) rfl (by kernel_rfl) (by kernel_rfl) ?_
        refine WL.q (.int .i64 (s.size : Int)) (by kernel_rfl) rfl (by kernel_rfl) (by kernel_rfl) ?_
        refine WL.q (.bool (decide ((k : Int) < (s.size : Int)))) (by kernel_rfl) rfl (by kernel_rfl) (by kernel_rfl) ?_
        refine WL.nil ?_
        refine EX.then_code ?_
        refine CW.cond (decide ((k : Int) < (s.size : Int))) (by kernel_rfl) (by kernel_rfl) (fun c40 => ?_) (fun c40 => ?_)
        ·
          skip
          have d41 := of_decide_eq_true c40
          refine CW.skip ?_
          refine EX.then_code ?_
          refine CW.seq ?_
          refine CW.block ?_
          refine CW.seq ?_
          refine CW.region ?_
          refine WL.q (.string s) (by kernel_rfl) rfl (by kernel_rfl) (by kernel_rfl) ?_
          refine WL.q (.int .i64 (k : Int)) (by kernel_rfl) rfl (by kernel_rfl) (by kernel_rfl) ?_
          refine WL.q (.int .u8 (byteAt s k : Int)) (by kernel_rfl) rfl (by kernel_rfl) (q_strIndex (s := s) (k := .i64) (i := k) rfl (by kernel_rfl) (by kernel_rfl) (by kernel_rfl) (by omega)) ?_
          refine WL.q (.bool (decide ((byteAt s k : Int) < 48))) (by kernel_rfl) rfl (by kernel_rfl) (by kernel_rfl) ?_
          refine WL.q (.bool (decide ((byteAt s k : Int) < 48))) (by kernel_rfl) rfl (by kernel_rfl) (by kernel_rfl) ?_
          rcases bool_cases (decide ((byteAt s k : Int) < 48)) with c42 | c42
          ·
            skip
            have d43 := of_decide_eq_true c42
            refine WL.know 29 (.bool true) (x := .bool (decide ((byteAt s k : Int) < 48))) (by kernel_rfl) (congrArg Value.bool c42) ?_
            refine WL.skip (by kernel_rfl) rfl (by kernel_rfl) ?_
            refine WL.skip (by kernel_rfl) rfl (by kernel_rfl) ?_
            refine WL.skip (by kernel_rfl) rfl (by kernel_rfl) ?_
            refine WL.skip (by kernel_rfl) rfl (by kernel_rfl) ?_
            refine WL.q (.bool true) (by kernel_rfl) rfl (by kernel_rfl) (by kernel_rfl) ?_
            refine WL.nil ?_
            refine EX.then_code ?_
            refine CW.cond_t (by kernel_rfl) (by kernel_rfl) ?_
            refine CW.seq ?_
            refine CW.region ?_
            refine WL.q (.bool false) (by kernel_rfl) rfl (by kernel_rfl) (by kernel_rfl) ?_
            refine WL.nil ?_
            refine EX.then_code ?_
            refine CW.ret ?_
            refine EX.ret_block ?_
            refine EX.ret_then ?_
            refine EX.ret_then ?_
            refine EX.ret_block ?_
            refine EX.ret_then ?_
            refine EX.ret1 (v := (.bool false)) rfl (by kernel_rfl) ?_
            exact Ret.mk l39 G39 (⟨_, rfl⟩)
          ·
            skip
            have d44 := of_decide_eq_false c42
            refine WL.know 29 (.bool false) (x := .bool (decide ((byteAt s k : Int) < 48))) (by kernel_rfl) (congrArg Value.bool c42) ?_
            refine WL.q (.string s) (by kernel_rfl) rfl (by kernel_rfl) (by kernel_rfl) ?_
            refine WL.q (.int .i64 (k : Int)) (by kernel_rfl) rfl (by kernel_rfl) (by kernel_rfl) ?_
            refine WL.q (.int .u8 (byteAt s k : Int)) (by kernel_rfl) rfl (by kernel_rfl) (q_strIndex (s := s) (k := .i64) (i := k) rfl (by kernel_rfl) (by kernel_rfl) (by kernel_rfl) (by omega)) ?_
            refine WL.q (.bool (decide ((byteAt s k : Int) > 57))) (by kernel_rfl) rfl (by kernel_rfl) (by kernel_rfl) ?_
            refine WL.q (.bool (decide ((byteAt s k : Int) > 57))) (by kernel_rfl) rfl (by kernel_rfl) (by kernel_rfl) ?_
            refine WL.nil ?_
            refine EX.then_code ?_
            refine CW.cond (decide ((byteAt s k : Int) > 57)) (by kernel_rfl) (by kernel_rfl) (fun c45 => ?_) (fun c45 => ?_)
            ·
              skip
              have d46 := of_decide_eq_true c45
              refine CW.seq ?_
              refine CW.region ?_
              refine WL.q (.bool false) (by kernel_rfl) rfl (by kernel_rfl) (by kernel_rfl) ?_
              refine WL.nil ?_
              refine EX.then_code ?_
              refine CW.ret ?_
              refine EX.ret_block ?_
              refine EX.ret_then ?_
              refine EX.ret_then ?_
              refine EX.ret_block ?_
              refine EX.ret_then ?_
              refine EX.ret1 (v := (.bool false)) rfl (by kernel_rfl) ?_
              exact Ret.mk l39 G39 (⟨_, rfl⟩)
            ·
              skip
              have d47 := of_decide_eq_false c45
              refine CW.skip ?_
              refine EX.in_block ?_
              refine EX.then_code ?_
              refine CW.region ?_
              refine WL.q (.int .i64 (k : Int)) (by kernel_rfl) rfl (by kernel_rfl) (by kernel_rfl) ?_
              refine WL.q (.int .i64 ((k + 1 : Nat) : Int)) (by kernel_rfl) rfl (by kernel_rfl) (q_int (x := IntKind.i64.wrap ((k : Int) + 1)) (by kernel_rfl) (wrap_to (by omega) (by omega) (by omega))) ?_
              refine WL.q (.int .i64 ((k + 1 : Nat) : Int)) (by kernel_rfl) rfl (by kernel_rfl) (by kernel_rfl) ?_
              refine WL.nil ?_
              exact EX.then_loop (k + 1) ⟨(by kernel_rfl), (by kernel_rfl), (lk_int (x := ((k + 1 : Nat) : Int)) (by kernel_rfl) (by first | omega | (dsimp only; done) | (dsimp only; omega))), trivial⟩ ⟨h39, l39, G39⟩ (by first | omega | (dsimp only; omega))
        ·
          skip
          have d48 := of_decide_eq_false c40
          refine CW.exit ?_
          refine EX.exit_then ?_
          refine EX.exit_then ?_
          refine EX.exit_here ?_
          refine EX.then_code ?_
          refine CW.seq ?_
          refine CW.region ?_
          refine WL.q (.string s) (by kernel_rfl) rfl (by kernel_rfl) (by kernel_rfl) ?_
          refine WL.q (.int .i64 (s.size : Int)) (by kernel_rfl) rfl (by kernel_rfl) (by kernel_rfl) ?_
          refine WL.q (.int .i64 1) (by kernel_rfl) rfl (by kernel_rfl) (by kernel_rfl) ?_
          refine WL.q (.bool (decide ((s.size : Int) > 1))) (by kernel_rfl) rfl (by kernel_rfl) (by kernel_rfl) ?_
          refine WL.q (.bool (decide ((s.size : Int) > 1))) (by kernel_rfl) rfl (by kernel_rfl) (by kernel_rfl) ?_
          refine WL.nil ?_
          refine EX.then_code ?_
          refine CW.ret ?_
          refine EX.ret1 (v := (.bool (decide ((s.size : Int) > 1)))) rfl (by kernel_rfl) ?_
          exact Ret.mk l39 G39 (⟨_, rfl⟩)
      ·
        skip
        have d49 := ne_of_beq_false c37
        refine CW.skip ?_
        refine EX.then_code ?_
        refine CW.seq ?_
        refine CW.seq ?_
        refine CW.region ?_
        refine WL.q (.int .i64 0) (by kernel_rfl) rfl (by kernel_rfl) (by kernel_rfl) ?_
        refine WL.q (.int .i64 0) (by kernel_rfl) rfl (by kernel_rfl) (by kernel_rfl) ?_
        refine WL.nil ?_
        refine EX.then_code ?_
        refine CW.block ?_
        refine CW.loop (β := Nat) (fun x_ => [(0, (.string s)), (3, (.int .i64 0)), (4, (.int .i64 (x_ : Int)))]) (fun x_ w_ => ∃ h_, (PH.le h h_) ∧ (Wld K w_ h_ M)) (fun x_ => s.size - x_) 0 ⟨(by kernel_rfl), (by kernel_rfl), (lk_int (x := 0) (by kernel_rfl) (by first | omega | (dsimp only; done) | (dsimp only; omega))), trivial⟩ ⟨h, (PH.le_refl _), G⟩ ?_
        rintro k w50 ⟨h50, l50, G50⟩
        try dsimp only at *
        refine CW.seq ?_
        refine CW.seq ?_
        refine CW.region ?_
        refine WL.q (.int .i64 (k : Int)) (by kernel_rfl) rfl (by kernel_rfl) (by kernel_rfl) ?_
        refine WL.q (.string s) (by kernel_rfl) rfl (by kernel_rfl) (by kernel_rfl) ?_
        refine WL.q (.int .i64 (s.size : Int)) (by kernel_rfl) rfl (by kernel_rfl) (by kernel_rfl) ?_
        refine WL.q (.bool (decide ((k : Int) < (s.size : Int)))) (by kernel_rfl) rfl (by kernel_rfl) (by kernel_rfl) ?_
        refine WL.nil ?_
        refine EX.then_code ?_
        refine CW.cond (decide ((k : Int) < (s.size : Int))) (by kernel_rfl) (by kernel_rfl) (fun c51 => ?_) (fun c51 => ?_)
        ·
          skip
          have d52 := of_decide_eq_true c51
          refine CW.skip ?_
          refine EX.then_code ?_
          refine CW.seq ?_
          refine CW.block ?_
          refine CW.seq ?_
          refine CW.region ?_
          refine WL.q (.string s) (by kernel_rfl) rfl (by kernel_rfl) (by kernel_rfl) ?_
          refine WL.q (.int .i64 (k : Int)) (by kernel_rfl) rfl (by kernel_rfl) (by kernel_rfl) ?_
          refine WL.q (.int .u8 (byteAt s k : Int)) (by kernel_rfl) rfl (by kernel_rfl) (q_strIndex (s := s) (k := .i64) (i := k) rfl (by kernel_rfl) (by kernel_rfl) (by kernel_rfl) (by omega)) ?_
          refine WL.q (.bool (decide ((byteAt s k : Int) < 48))) (by kernel_rfl) rfl (by kernel_rfl) (by kernel_rfl) ?_
          refine WL.q (.bool (decide ((byteAt s k : Int) < 48))) (by kernel_rfl) rfl (by kernel_rfl) (by kernel_rfl) ?_
          rcases bool_cases (decide ((byteAt s k : Int) < 48)) with c53 | c53
          ·
            skip
            have d54 := of_decide_eq_true c53
            refine WL.know 29 (.bool true) (x := .bool (decide ((byteAt s k : Int) < 48))) (by kernel_rfl) (congrArg Value.bool c53) ?_
            refine WL.skip (by kernel_rfl) rfl (by kernel_rfl) ?_
            refine WL.skip (by kernel_rfl) rfl (by kernel_rfl) ?_
            refine WL.skip (by kernel_rfl) rfl (by kernel_rfl) ?_
            refine WL.skip (by kernel_rfl) rfl (by kernel_rfl) ?_
            refine WL.q (.bool true) (by kernel_rfl) rfl (by kernel_rfl) (by kernel_rfl) ?_
            refine WL.nil ?_
            refine EX.then_code ?_
            refine CW.cond_t (by kernel_rfl) (by kernel_rfl) ?_
            refine CW.seq ?_
            refine CW.region ?_
            refine WL.q (.bool false) (by kernel_rfl) rfl (by kernel_rfl) (by kernel_rfl) ?_
            refine WL.nil ?_
            refine EX.then_code ?_
            refine CW.ret ?_
            refine EX.ret_block ?_
            refine EX.ret_then ?_
            refine EX.ret_then ?_
            refine EX.ret_block ?_
            refine EX.ret_then ?_
            refine EX.ret1 (v := (.bool false)) rfl (by kernel_rfl) ?_
            exact Ret.mk l50 G50 (⟨_, rfl⟩)
          ·
            skip
            have d55 := of_decide_eq_false c53
            refine WL.know 29 (.bool false) (x := .bool (decide ((byteAt s k : Int) < 48))) (by kernel_rfl) (congrArg Value.bool c53) ?_
            refine WL.q (.string s) (by kernel_rfl) rfl (by kernel_rfl) (by kernel_rfl) ?_
            refine WL.q (.int .i64 (k : Int)) (by kernel_rfl) rfl (by kernel_rfl) (by kernel_rfl) ?_
            refine WL.q (.int .u8 (byteAt s k : Int)) (by kernel_rfl) rfl (by kernel_rfl) (q_strIndex (s := s) (k := .i64) (i := k) rfl (by kernel_rfl) (by kernel_rfl) (by kernel_rfl) (by omega)) ?_
            refine WL.q (.bool (decide ((byteAt s k : Int) > 57))) (by kernel_rfl) rfl (by kernel_rfl) (by kernel_rfl) ?_
            refine WL.q (.bool (decide ((byteAt s k : Int) > 57))) (by kernel_rfl) rfl (by kernel_rfl) (by kernel_rfl) ?_
            refine WL.nil ?_
            refine EX.then_code ?_
            refine CW.cond (decide ((byteAt s k : Int) > 57)) (by kernel_rfl) (by kernel_rfl) (fun c56 => ?_) (fun c56 => ?_)
            ·
              skip
              have d57 := of_decide_eq_true c56
              refine CW.seq ?_
              refine CW.region ?_
              refine WL.q (.bool false) (by kernel_rfl) rfl (by kernel_rfl) (by kernel_rfl) ?_
              refine WL.nil ?_
              refine EX.then_code ?_
              refine CW.ret ?_
              refine EX.ret_block ?_
              refine EX.ret_then ?_
              refine EX.ret_then ?_
              refine EX.ret_block ?_
              refine EX.ret_then ?_
              refine EX.ret1 (v := (.bool false)) rfl (by kernel_rfl) ?_
              exact Ret.mk l50 G50 (⟨_, rfl⟩)
            ·
              skip
              have d58 := of_decide_eq_false c56
              refine CW.skip ?_
              refine EX.in_block ?_
              refine EX.then_code ?_
              refine CW.region ?_
              refine WL.q (.int .i64 (k : Int)) (by kernel_rfl) rfl (by kernel_rfl) (by kernel_rfl) ?_
              refine WL.q (.int .i64 ((k + 1 : Nat) : Int)) (by kernel_rfl) rfl (by kernel_rfl) (q_int (x := IntKind.i64.wrap ((k : Int) + 1)) (by kernel_rfl) (wrap_to (by omega) (by omega) (by omega))) ?_
              refine WL.q (.int .i64 ((k + 1 : Nat) : Int)) (by kernel_rfl) rfl (by kernel_rfl) (by kernel_rfl) ?_
              refine WL.nil ?_
              exact EX.then_loop (k + 1) ⟨(by kernel_rfl), (by kernel_rfl), (lk_int (x := ((k + 1 : Nat) : Int)) (by kernel_rfl) (by first | omega | (dsimp only; done) | (dsimp only; omega))), trivial⟩ ⟨h50, l50, G50⟩ (by first | omega | (dsimp only; omega))
        ·
          skip
          have d59 := of_decide_eq_false c51
          refine CW.exit ?_
          refine EX.exit_then ?_
          refine EX.exit_then ?_
          refine EX.exit_here ?_
          refine EX.then_code ?_
          refine CW.seq ?_
          refine CW.region ?_
          refine WL.q (.string s) (by kernel_rfl) rfl (by kernel_rfl) (by kernel_rfl) ?_
          refine WL.q (.int .i64 (s.size : Int)) (by kernel_rfl) rfl (by kernel_rfl) (by kernel_rfl) ?_
          refine WL.q (.int .i64 0) (by kernel_rfl) rfl (by kernel_rfl) (by kernel_rfl) ?_
          refine WL.q (.bool (decide ((s.size : Int) > 0))) (by kernel_rfl) rfl (by kernel_rfl) (by kernel_rfl) ?_
          refine WL.q (.bool (decide ((s.size : Int) > 0))) (by kernel_rfl) rfl (by kernel_rfl) (by kernel_rfl) ?_
          refine WL.nil ?_
          refine EX.then_code ?_
          refine CW.ret ?_
          refine EX.ret1 (v := (.bool (decide ((s.size : Int) > 0)))) rfl (by kernel_rfl) ?_
          exact Ret.mk l50 G50 (⟨_, rfl⟩)
  ·
    skip
    have d60 := of_decide_eq_false c22
    refine WL.know 8 (.bool false) (x := .bool (decide ((s.size : Int) > 0))) (by kernel_rfl) (congrArg Value.bool c22) ?_
    refine WL.skip (by kernel_rfl) rfl (by kernel_rfl) ?_
    refine WL.skip (by kernel_rfl) rfl (by kernel_rfl) ?_
    refine WL.skip (by kernel_rfl) rfl (by kernel_rfl) ?_
    refine WL.skip (by kernel_rfl) rfl (by kernel_rfl) ?_
    refine WL.skip (by kernel_rfl) rfl (by kernel_rfl) ?_
    refine WL.skip (by kernel_rfl) rfl (by kernel_rfl) ?_
    refine WL.skip (by kernel_rfl) rfl (by kernel_rfl) ?_
    refine WL.skip (by kernel_rfl) rfl (by kernel_rfl) ?_
    refine WL.q (.bool false) (by kernel_rfl) rfl (by kernel_rfl) (by kernel_rfl) ?_
    refine WL.nil ?_
    refine EX.then_code ?_
    refine CW.cond_f (by kernel_rfl) (by kernel_rfl) ?_
    refine CW.skip ?_
    refine EX.then_code ?_
    refine CW.seq ?_
    refine CW.seq ?_
    refine CW.region ?_
    refine WL.q (.int .i64 0) (by kernel_rfl) rfl (by kernel_rfl) (by kernel_rfl) ?_
    refine WL.q (.int .i64 0) (by kernel_rfl) rfl (by kernel_rfl) (by kernel_rfl) ?_
    refine WL.nil ?_
    refine EX.then_code ?_
    refine CW.block ?_
    refine CW.loop (β := Nat) (fun x_ => [(0, (.string s)), (3, (.int .i64 0)), (4, (.int .i64 (x_ : Int)))]) (fun x_ w_ => ∃ h_, (PH.le h h_) ∧ (Wld K w_ h_ M)) (fun x_ => s.size - x_) 0 ⟨(by kernel_rfl), (by kernel_rfl), (lk_int (x := 0) (by kernel_rfl) (by first | omega | (dsimp only; done) | (dsimp only; omega))), trivial⟩ ⟨h, (PH.le_refl _), G⟩ ?_
    rintro k w61 ⟨h61, l61, G61⟩
    try dsimp only at *
    refine CW.seq ?_
    refine CW.seq ?_
    refine CW.region ?_
    refine WL.q (.int .i64 (k : Int)) (by kernel_rfl) rfl (by kernel_rfl) (by kernel_rfl) ?_
    refine WL.q (.string s) (by kernel_rfl) rfl (by kernel_rfl) (by kernel_rfl) ?_
    refine WL.q (.int .i64 (s.size : Int)) (by kernel_rfl) rfl (by kernel_rfl) (by kernel_rfl) ?_
    refine WL.q (.bool (decide ((k : Int) < (s.size : Int)))) (by kernel_rfl) rfl (by kernel_rfl) (by kernel_rfl) ?_
    refine WL.nil ?_
    refine EX.then_code ?_
    refine CW.cond (decide ((k : Int) < (s.size : Int))) (by kernel_rfl) (by kernel_rfl) (fun c62 => ?_) (fun c62 => ?_)
    ·
      skip
      have d63 := of_decide_eq_true c62
      refine CW.skip ?_
      refine EX.then_code ?_
      refine CW.seq ?_
      refine CW.block ?_
      refine CW.seq ?_
      refine CW.region ?_
      refine WL.q (.string s) (by kernel_rfl) rfl (by kernel_rfl) (by kernel_rfl) ?_
      refine WL.q (.int .i64 (k : Int)) (by kernel_rfl) rfl (by kernel_rfl) (by kernel_rfl) ?_
      refine WL.q (.int .u8 (byteAt s k : Int)) (by kernel_rfl) rfl (by kernel_rfl) (q_strIndex (s := s) (k := .i64) (i := k) rfl (by kernel_rfl) (by kernel_rfl) (by kernel_rfl) (by omega)) ?_
      refine WL.q (.bool (decide ((byteAt s k : Int) < 48))) (by kernel_rfl) rfl (by kernel_rfl) (by kernel_rfl) ?_
      refine WL.q (.bool (decide ((byteAt s k : Int) < 48))) (by kernel_rfl) rfl (by kernel_rfl) (by kernel_rfl) ?_
      rcases bool_cases (decide ((byteAt s k : Int) < 48)) with c64 | c64
      ·
        skip
        have d65 := of_decide_eq_true c64
        refine WL.know 29 (.bool true) (x := .bool (decide ((byteAt s k : Int) < 48))) (by kernel_rfl) (congrArg Value.bool c64) ?_
        refine WL.skip (by kernel_rfl) rfl (by kernel_rfl) ?_
        refine WL.skip (by kernel_rfl) rfl (by kernel_rfl) ?_
        refine WL.skip (by kernel_rfl) rfl (by kernel_rfl) ?_
        refine WL.skip (by kernel_rfl) rfl (by kernel_rfl) ?_
        refine WL.q (.bool true) (by kernel_rfl) rfl (by kernel_rfl) (by kernel_rfl) ?_
        refine WL.nil ?_
        refine EX.then_code ?_
        refine CW.cond_t (by kernel_rfl) (by kernel_rfl) ?_
        refine CW.seq ?_
        refine CW.region ?_
        refine WL.q (.bool false) (by kernel_rfl) rfl (by kernel_rfl) (by kernel_rfl) ?_
        refine WL.nil ?_
        refine EX.then_code ?_
        refine CW.ret ?_
        refine EX.ret_block ?_
        refine EX.ret_then ?_
        refine EX.ret_then ?_
        refine EX.ret_block ?_
        refine EX.ret_then ?_
        refine EX.ret1 (v := (.bool false)) rfl (by kernel_rfl) ?_
        exact Ret.mk l61 G61 (⟨_, rfl⟩)
      ·
        skip
        have d66 := of_decide_eq_false c64
        refine WL.know 29 (.bool false) (x := .bool (decide ((byteAt s k : Int) < 48))) (by kernel_rfl) (congrArg Value.bool c64) ?_
        refine WL.q (.string s) (by kernel_rfl) rfl (by kernel_rfl) (by kernel_rfl) ?_
        refine WL.q (.int .i64 (k : Int)) (by kernel_rfl) rfl (by kernel_rfl) (by kernel_rfl) ?_
        refine WL.q (.int .u8 (byteAt s k : Int)) (by kernel_rfl) rfl (by kernel_rfl) (q_strIndex (s := s) (k := .i64) (i := k) rfl (by kernel_rfl) (by kernel_rfl) (by kernel_rfl) (by omega)) ?_
        refine WL.q (.bool (decide ((byteAt s k : Int) > 57))) (by kernel_rfl) rfl (by kernel_rfl) (by kernel_rfl) ?_
        refine WL.q (.bool (decide ((byteAt s k : Int) > 57))) (by kernel_rfl) rfl (by kernel_rfl) (by kernel_rfl) ?_
        refine WL.nil ?_
        refine EX.then_code ?_
        refine CW.cond (decide ((byteAt s k : Int) > 57)) (by kernel_rfl) (by kernel_rfl) (fun c67 => ?_) (fun c67 => ?_)
        ·
          skip
          have d68 := of_decide_eq_true c67
          refine CW.seq ?_
          refine CW.region ?_
          refine WL.q (.bool false) (by kernel_rfl) rfl (by kernel_rfl) (by kernel_rfl) ?_
          refine WL.nil ?_
          refine EX.then_code ?_
          refine CW.ret ?_
          refine EX.ret_block ?_
          refine EX.ret_then ?_
          refine EX.ret_then ?_
          refine EX.ret_block ?_
          refine EX.ret_then ?_
          refine EX.ret1 (v := (.bool false)) rfl (by kernel_rfl) ?_
          exact Ret.mk l61 G61 (⟨_, rfl⟩)
        ·
          skip
          have d69 := of_decide_eq_false c67
          refine CW.skip ?_
          refine EX.in_block ?_
          refine EX.then_code ?_
          refine CW.region ?_
          refine WL.q (.int .i64 (k : Int)) (by kernel_rfl) rfl (by kernel_rfl) (by kernel_rfl) ?_
          refine WL.q (.int .i64 ((k + 1 : Nat) : Int)) (by kernel_rfl) rfl (by kernel_rfl) (q_int (x := IntKind.i64.wrap ((k : Int) + 1)) (by kernel_rfl) (wrap_to (by omega) (by omega) (by omega))) ?_
          refine WL.q (.int .i64 ((k + 1 : Nat) : Int)) (by kernel_rfl) rfl (by kernel_rfl) (by kernel_rfl) ?_
          refine WL.nil ?_
          exact EX.then_loop (k + 1) ⟨(by kernel_rfl), (by kernel_rfl), (lk_int (x := ((k + 1 : Nat) : Int)) (by kernel_rfl) (by first | omega | (dsimp only; done) | (dsimp only; omega))), trivial⟩ ⟨h61, l61, G61⟩ (by first | omega | (dsimp only; omega))
    ·
      skip
      have d70 := of_decide_eq_false c62
      refine CW.exit ?_
      refine EX.exit_then ?_
      refine EX.exit_then ?_
      refine EX.exit_here ?_
      refine EX.then_code ?_
      refine CW.seq ?_
      refine CW.region ?_
      refine WL.q (.string s) (by kernel_rfl) rfl (by kernel_rfl) (by kernel_rfl) ?_
      refine WL.q (.int .i64 (s.size : Int)) (by kernel_rfl) rfl (by kernel_rfl) (by kernel_rfl) ?_
      refine WL.q (.int .i64 0) (by kernel_rfl) rfl (by kernel_rfl) (by kernel_rfl) ?_
      refine WL.q (.bool (decide ((s.size : Int) > 0))) (by kernel_rfl) rfl (by kernel_rfl) (by kernel_rfl) ?_
      refine WL.q (.bool (decide ((s.size : Int) > 0))) (by kernel_rfl) rfl (by kernel_rfl) (by kernel_rfl) ?_
      refine WL.nil ?_
      refine EX.then_code ?_
      refine CW.ret ?_
      refine EX.ret1 (v := (.bool (decide ((s.size : Int) > 0)))) rfl (by kernel_rfl) ?_
      exact Ret.mk l61 G61 (⟨_, rfl⟩)

theorem right_spec {K : Key} {w : World} {h M : PH} (G : Wld K w h M) {v : Val} (hs : v.s.size ≤ 9223372036854775807) :
    Calls Tryd.prog 18 #[.agg (valE.enc v).toArray] w (Ret K h M fun _ r => ∃ b, r = .bool b ∧ (b = true → v.s.size ≤ 1000)) := by
  refine enter (l := [(.agg #[(.int .i64 ((v).k)), (.int .i64 ((v).i)), (.string ((v).s))])]) Tryd.func18 rfl Tryd.ntmps18 (Nat.le_of_ble_eq_true rfl) ?_
  simp only [params]
  refine CW.seq ?_
  refine CW.region ?_
  refine WL.ex (by kernel_rfl) rfl (by kernel_rfl) (q_newF (ob := (.cells #[(.int .i64 ((v).k)), (.int .i64 ((v).i)), (.string ((v).s))] 29 (0, 0))) G (fun b_ => .pointer (some ⟨b_, 0, none⟩)) (fun u_ => by kernel_rfl)) ?_
  rintro _ w71 ⟨b71, h71, rfl, l71, G71, hb71, L71⟩
  refine WL.q (.bool false) (by kernel_rfl) rfl (by kernel_rfl) (by kernel_rfl) ?_
  refine WL.nil ?_
  refine EX.then_code ?_
  refine CW.seq ?_
  refine CW.seq ?_
  refine CW.region ?_
  refine WL.q (.pointer (some ⟨b71, 0, none⟩)) (by kernel_rfl) rfl (by kernel_rfl) (by kernel_rfl) ?_
  refine WL.q (.int .i64 ((v).k)) (by kernel_rfl) rfl (by kernel_rfl) (q_load (off := 0) rfl (by kernel_rfl) (by kernel_rfl) (G71.imm _ _ ((PH.le_refl _) _ _ hb71)) (by kernel_rfl)) ?_
  refine WL.nil ?_
  refine EX.then_code ?_
  refine CW.block ?_
  refine CW.seq ?_
  refine CW.region ?_
  refine WL.q (.bool (((v).k : Int) == 1)) (by kernel_rfl) rfl (by kernel_rfl) (by kernel_rfl) ?_
  refine WL.q (.bool (((v).k : Int) == 1)) (by kernel_rfl) rfl (by kernel_rfl) (by kernel_rfl) ?_
  refine WL.nil ?_
  refine EX.then_code ?_
  refine CW.cond (((v).k : Int) == 1) (by kernel_rfl) (by kernel_rfl) (fun c72 => ?_) (fun c72 => ?_)
  ·
    skip
    have d73 := eq_of_beq c72
    refine CW.seq ?_
    refine CW.region ?_
    refine WL.q (.pointer (some ⟨b71, 2, none⟩)) (by kernel_rfl) rfl (by kernel_rfl) (by kernel_rfl) ?_
    refine WL.q (.string ((v).s)) (by kernel_rfl) rfl (by kernel_rfl) (q_load (off := 2) rfl (by kernel_rfl) (by kernel_rfl) (G71.imm _ _ ((PH.le_refl _) _ _ hb71)) (by kernel_rfl)) ?_
    refine WL.q (.bool (sameS ((v).s) (ByteArray.mk #[]))) (by kernel_rfl) rfl (by kernel_rfl) (by kernel_rfl) ?_
    refine WL.q (.bool (sameS ((v).s) (ByteArray.mk #[]))) (by kernel_rfl) rfl (by kernel_rfl) (by kernel_rfl) ?_
    refine WL.nil ?_
    refine EX.then_code ?_
    refine CW.ret ?_
    refine EX.ret_block ?_
    refine EX.ret_then ?_
    refine EX.ret1 (v := (.bool (sameS ((v).s) (ByteArray.mk #[])))) rfl (by kernel_rfl) ?_
    exact Ret.mk l71 G71 (⟨_, rfl, fun e_ => by rw [sameS_iff.1 e_]; decide⟩)
  ·
    skip
    have d74 := ne_of_beq_false c72
    refine CW.seq ?_
    refine CW.region ?_
    refine WL.q (.bool (((v).k : Int) == 2)) (by kernel_rfl) rfl (by kernel_rfl) (by kernel_rfl) ?_
    refine WL.q (.bool (((v).k : Int) == 2)) (by kernel_rfl) rfl (by kernel_rfl) (by kernel_rfl) ?_
    refine WL.nil ?_
    refine EX.then_code ?_
    refine CW.cond (((v).k : Int) == 2) (by kernel_rfl) (by kernel_rfl) (fun c75 => ?_) (fun c75 => ?_)
    ·
      skip
      have d76 := eq_of_beq c75
      refine CW.seq ?_
      refine CW.region ?_
      refine WL.q (.pointer (some ⟨b71, 1, none⟩)) (by kernel_rfl) rfl (by kernel_rfl) (by kernel_rfl) ?_
      refine WL.q (.int .i64 ((v).i)) (by kernel_rfl) rfl (by kernel_rfl) (q_load (off := 1) rfl (by kernel_rfl) (by kernel_rfl) (G71.imm _ _ ((PH.le_refl _) _ _ hb71)) (by kernel_rfl)) ?_
      refine WL.q (.bool (((v).i : Int) == 0)) (by kernel_rfl) rfl (by kernel_rfl) (by kernel_rfl) ?_
      refine WL.q (.bool (((v).i : Int) == 0)) (by kernel_rfl) rfl (by kernel_rfl) (by kernel_rfl) ?_
      rcases bool_cases (((v).i : Int) == 0) with c77 | c77
      ·
        skip
        have d78 := eq_of_beq c77
        refine WL.know 17 (.bool true) (x := .bool (((v).i : Int) == 0)) (by kernel_rfl) (congrArg Value.bool c77) ?_
        refine WL.q (.pointer (some ⟨b71, 2, none⟩)) (by kernel_rfl) rfl (by kernel_rfl) (by kernel_rfl) ?_
        refine WL.q (.string ((v).s)) (by kernel_rfl) rfl (by kernel_rfl) (q_load (off := 2) rfl (by kernel_rfl) (by kernel_rfl) (G71.imm _ _ ((PH.le_refl _) _ _ hb71)) (by kernel_rfl)) ?_
        refine WL.q (.int .i64 (((v).s).size : Int)) (by kernel_rfl) rfl (by kernel_rfl) (by kernel_rfl) ?_
        refine WL.q (.bool (decide ((((v).s).size : Int) ≥ 1))) (by kernel_rfl) rfl (by kernel_rfl) (by kernel_rfl) ?_
        refine WL.q (.bool (decide ((((v).s).size : Int) ≥ 1))) (by kernel_rfl) rfl (by kernel_rfl) (by kernel_rfl) ?_
        refine WL.q (.bool (decide ((((v).s).size : Int) ≥ 1))) (by kernel_rfl) rfl (by kernel_rfl) (by kernel_rfl) ?_
        rcases bool_cases (decide ((((v).s).size : Int) ≥ 1)) with c79 | c79
        ·
          skip
          have d80 := of_decide_eq_true c79
          refine WL.know 23 (.bool true) (x := .bool (decide ((((v).s).size : Int) ≥ 1))) (by kernel_rfl) (congrArg Value.bool c79) ?_
          refine WL.q (.pointer (some ⟨b71, 2, none⟩)) (by kernel_rfl) rfl (by kernel_rfl) (by kernel_rfl) ?_
          refine WL.q (.string ((v).s)) (by kernel_rfl) rfl (by kernel_rfl) (q_load (off := 2) rfl (by kernel_rfl) (by kernel_rfl) (G71.imm _ _ ((PH.le_refl _) _ _ hb71)) (by kernel_rfl)) ?_
          refine WL.q (.int .i64 (((v).s).size : Int)) (by kernel_rfl) rfl (by kernel_rfl) (by kernel_rfl) ?_
          refine WL.q (.bool (decide ((((v).s).size : Int) ≤ 40))) (by kernel_rfl) rfl (by kernel_rfl) (by kernel_rfl) ?_
          refine WL.q (.bool (decide ((((v).s).size : Int) ≤ 40))) (by kernel_rfl) rfl (by kernel_rfl) (by kernel_rfl) ?_
          refine WL.q (.bool (decide ((((v).s).size : Int) ≤ 40))) (by kernel_rfl) rfl (by kernel_rfl) (by kernel_rfl) ?_
          rcases bool_cases (decide ((((v).s).size : Int) ≤ 40)) with c81 | c81
          ·
            skip
            have d82 := of_decide_eq_true c81
            refine WL.know 29 (.bool true) (x := .bool (decide ((((v).s).size : Int) ≤ 40))) (by kernel_rfl) (congrArg Value.bool c81) ?_
            refine WL.q (.pointer (some ⟨b71, 2, none⟩)) (by kernel_rfl) rfl (by kernel_rfl) (by kernel_rfl) ?_
            refine WL.q (.string ((v).s)) (by kernel_rfl) rfl (by kernel_rfl) (q_load (off := 2) rfl (by kernel_rfl) (by kernel_rfl) (G71.imm _ _ ((PH.le_refl _) _ _ hb71)) (by kernel_rfl)) ?_
            refine WL.call (by kernel_rfl) rfl (by kernel_rfl) (by kernel_rfl) (shape_spec (s := ((v).s)) G71 (by omega)) (Ret.elim ?_)
            rintro w83 h83 _ l83 G83 ⟨bs83, rfl⟩
            refine WL.q (.bool (!bs83)) (by kernel_rfl) rfl (by kernel_rfl) (by kernel_rfl) ?_
            refine WL.q (.bool (!bs83)) (by kernel_rfl) rfl (by kernel_rfl) (by kernel_rfl) ?_
            refine WL.q (.bool (!bs83)) (by kernel_rfl) rfl (by kernel_rfl) (by kernel_rfl) ?_
            refine WL.nil ?_
            refine EX.then_code ?_
            refine CW.seq ?_
            refine CW.seq ?_
            refine CW.region ?_
            refine WL.q (.int .i64 0) (by kernel_rfl) rfl (by kernel_rfl) (by kernel_rfl) ?_
            refine WL.nil ?_
            refine EX.then_code ?_
            refine CW.block ?_
            refine CW.loop (β := Nat × Bool) (fun x_ => [(1, (.pointer (some ⟨b71, 0, none⟩))), (2, (.bool false)), (3, (.bool x_.2)), (4, (.int .i64 (x_.1 : Int)))]) (fun x_ w_ => ∃ h_, (PH.le h83 h_) ∧ (Wld K w_ h_ M) ∧ (x_.2 = true → v.s.size ≤ 40)) (fun x_ => v.s.size - x_.1) ⟨0, (!bs83)⟩ ⟨(by kernel_rfl), (by kernel_rfl), (by kernel_rfl), (lk_int (x := 0) (by kernel_rfl) (by first | omega | (dsimp only; done) | (dsimp only; omega))), trivial⟩ ⟨h83, (PH.le_refl _), G83, (fun e_ => by first | omega | (exact absurd e_ (by decide)) | (simp_all; omega))⟩ ?_
            rintro ⟨k, ok⟩ w84 ⟨h84, l84, G84, hok⟩
            try dsimp only at *
            refine CW.seq ?_
            refine CW.seq ?_
            refine CW.region ?_
            refine WL.q (.int .i64 (k : Int)) (by kernel_rfl) rfl (by kernel_rfl) (by kernel_rfl) ?_
            refine WL.q (.pointer (some ⟨b71, 2, none⟩)) (by kernel_rfl) rfl (by kernel_rfl) (by kernel_rfl) ?_
            refine WL.q (.string ((v).s)) (by kernel_rfl) rfl (by kernel_rfl) (q_load (off := 2) rfl (by kernel_rfl) (by kernel_rfl) (G84.imm _ _ ((l83.trans l84) _ _ hb71)) (by kernel_rfl)) ?_
            refine WL.q (.int .i64 (((v).s).size : Int)) (by kernel_rfl) rfl (by kernel_rfl) (by kernel_rfl) ?_
            refine WL.q (.bool (decide ((k : Int) < (((v).s).size : Int)))) (by kernel_rfl) rfl (by kernel_rfl) (by kernel_rfl) ?_
            refine WL.nil ?_
            refine EX.then_code ?_
            refine CW.cond (decide ((k : Int) < (((v).s).size : Int))) (by kernel_rfl) (by kernel_rfl) (fun c85 => ?_) (fun c85 => ?_)
            ·
              skip
              have d86 := of_decide_eq_true c85
              refine CW.skip ?_
              refine EX.then_code ?_
              refine CW.seq ?_
              refine CW.block ?_
              refine CW.region ?_
              refine WL.q (.bool ok) (by kernel_rfl) rfl (by kernel_rfl) (by kernel_rfl) ?_
              refine WL.q (.bool ok) (by kernel_rfl) rfl (by kernel_rfl) (by kernel_rfl) ?_
              rcases bool_cases ok with c87 | c87
              ·
                skip
                refine WL.know 43 (.bool true) (x := .bool ok) (by kernel_rfl) (congrArg Value.bool c87) ?_
                refine WL.q (.pointer (some ⟨b71, 2, none⟩)) (by kernel_rfl) rfl (by kernel_rfl) (by kernel_rfl) ?_
                refine WL.q (.string ((v).s)) (by kernel_rfl) rfl (by kernel_rfl) (q_load (off := 2) rfl (by kernel_rfl) (by kernel_rfl) (G84.imm _ _ ((l83.trans l84) _ _ hb71)) (by kernel_rfl)) ?_
                refine WL.q (.int .i64 (k : Int)) (by kernel_rfl) rfl (by kernel_rfl) (by kernel_rfl) ?_
                refine WL.q (.int .u8 (byteAt ((v).s) k : Int)) (by kernel_rfl) rfl (by kernel_rfl) (q_strIndex (s := ((v).s)) (k := .i64) (i := k) rfl (by kernel_rfl) (by kernel_rfl) (by kernel_rfl) (by omega)) ?_
                refine WL.call (by kernel_rfl) rfl (by kernel_rfl) (by kernel_rfl) (sign_spec (c := (byteAt ((v).s) k)) G84 (byteAt_lt _ _)) (Ret.elim ?_)
                rintro w89 h89 _ l89 G89 ⟨bs89, rfl⟩
                refine WL.q (.bool bs89) (by kernel_rfl) rfl (by kernel_rfl) (by kernel_rfl) ?_
                refine WL.q (.bool bs89) (by kernel_rfl) rfl (by kernel_rfl) (by kernel_rfl) ?_
                refine WL.nil ?_
                refine EX.in_block ?_
                refine EX.then_code ?_
                refine CW.region ?_
                refine WL.q (.int .i64 (k : Int)) (by kernel_rfl) rfl (by kernel_rfl) (by kernel_rfl) ?_
                refine WL.q (.int .i64 ((k + 1 : Nat) : Int)) (by kernel_rfl) rfl (by kernel_rfl) (q_int (x := IntKind.i64.wrap ((k : Int) + 1)) (by kernel_rfl) (wrap_to (by omega) (by omega) (by omega))) ?_
                refine WL.q (.int .i64 ((k + 1 : Nat) : Int)) (by kernel_rfl) rfl (by kernel_rfl) (by kernel_rfl) ?_
                refine WL.nil ?_
                exact EX.then_loop ⟨k + 1, bs89⟩ ⟨(by kernel_rfl), (by kernel_rfl), (by kernel_rfl), (lk_int (x := ((k + 1 : Nat) : Int)) (by kernel_rfl) (by first | omega | (dsimp only; done) | (dsimp only; omega))), trivial⟩ ⟨h89, (l84.trans l89), G89, (fun e_ => by first | (dsimp only at e_; cases e_; done) | exact hok (by assumption) | omega)⟩ (by first | omega | (dsimp only; omega))
              ·
                skip
                refine WL.know 43 (.bool false) (x := .bool ok) (by kernel_rfl) (congrArg Value.bool c87) ?_
                refine WL.skip (by kernel_rfl) rfl (by kernel_rfl) ?_
                refine WL.skip (by kernel_rfl) rfl (by kernel_rfl) ?_
                refine WL.skip (by kernel_rfl) rfl (by kernel_rfl) ?_
                refine WL.skip (by kernel_rfl) rfl (by kernel_rfl) ?_
                refine WL.skip (by kernel_rfl) rfl (by kernel_rfl) ?_
                refine WL.q (.bool false) (by kernel_rfl) rfl (by kernel_rfl) (by kernel_rfl) ?_
                refine WL.q (.bool false) (by kernel_rfl) rfl (by kernel_rfl) (by kernel_rfl) ?_
                refine WL.nil ?_
                refine EX.in_block ?_
                refine EX.then_code ?_
                refine CW.region ?_
                refine WL.q (.int .i64 (k : Int)) (by kernel_rfl) rfl (by kernel_rfl) (by kernel_rfl) ?_
                refine WL.q (.int .i64 ((k + 1 : Nat) : Int)) (by kernel_rfl) rfl (by kernel_rfl) (q_int (x := IntKind.i64.wrap ((k : Int) + 1)) (by kernel_rfl) (wrap_to (by omega) (by omega) (by omega))) ?_
                refine WL.q (.int .i64 ((k + 1 : Nat) : Int)) (by kernel_rfl) rfl (by kernel_rfl) (by kernel_rfl) ?_
                refine WL.nil ?_
                exact EX.then_loop ⟨k + 1, false⟩ ⟨(by kernel_rfl), (by kernel_rfl), (by kernel_rfl), (lk_int (x := ((k + 1 : Nat) : Int)) (by kernel_rfl) (by first | omega | (dsimp only; done) | (dsimp only; omega))), trivial⟩ ⟨h84, l84, G84, (fun e_ => by first | (dsimp only at e_; cases e_; done) | exact hok (by assumption) | omega)⟩ (by first | omega | (dsimp only; omega))
            ·
              skip
              have d91 := of_decide_eq_false c85
              refine CW.exit ?_
              refine EX.exit_then ?_
              refine EX.exit_then ?_
              refine EX.exit_here ?_
              refine EX.then_code ?_
              refine CW.seq ?_
              refine CW.region ?_
              refine WL.q (.bool ok) (by kernel_rfl) rfl (by kernel_rfl) (by kernel_rfl) ?_
              refine WL.q (.bool ok) (by kernel_rfl) rfl (by kernel_rfl) (by kernel_rfl) ?_
              refine WL.nil ?_
              refine EX.then_code ?_
              refine CW.ret ?_
              refine EX.ret_block ?_
              refine EX.ret_then ?_
              refine EX.ret1 (v := (.bool ok)) rfl (by kernel_rfl) ?_
              exact Ret.mk ((l71.trans l83).trans l84) G84 (⟨_, rfl, fun e_ => Nat.le_trans (hok e_) (by decide)⟩)
          ·
            skip
            have d92 := of_decide_eq_false c81
            refine WL.know 29 (.bool false) (x := .bool (decide ((((v).s).size : Int) ≤ 40))) (by kernel_rfl) (congrArg Value.bool c81) ?_
            refine WL.skip (by kernel_rfl) rfl (by kernel_rfl) ?_
            refine WL.skip (by kernel_rfl) rfl (by kernel_rfl) ?_
            refine WL.skip (by kernel_rfl) rfl (by kernel_rfl) ?_
            refine WL.skip (by kernel_rfl) rfl (by kernel_rfl) ?_
            refine WL.q (.bool false) (by kernel_rfl) rfl (by kernel_rfl) (by kernel_rfl) ?_
            refine WL.q (.bool false) (by kernel_rfl) rfl (by kernel_rfl) (by kernel_rfl) ?_
            refine WL.nil ?_
            refine EX.then_code ?_
            refine CW.seq ?_
            refine CW.seq ?_
            refine CW.region ?_
            refine WL.q (.int .i64 0) (by kernel_rfl) rfl (by kernel_rfl) (by kernel_rfl) ?_
            refine WL.nil ?_
            refine EX.then_code ?_
            refine CW.block ?_
            refine CW.loop (β := Nat × Bool) (fun x_ => [(1, (.pointer (some ⟨b71, 0, none⟩))), (2, (.bool false)), (3, (.bool x_.2)), (4, (.int .i64 (x_.1 : Int)))]) (fun x_ w_ => ∃ h_, (PH.le h71 h_) ∧ (Wld K w_ h_ M) ∧ (x_.2 = true → v.s.size ≤ 40)) (fun x_ => v.s.size - x_.1) ⟨0, false⟩ ⟨(by kernel_rfl), (by kernel_rfl), (by kernel_rfl), (lk_int (x := 0) (by kernel_rfl) (by first | omega | (dsimp only; done) | (dsimp only; omega))), trivial⟩ ⟨h71, (PH.le_refl _), G71, (fun e_ => by first | omega | (exact absurd e_ (by decide)) | (simp_all; omega))⟩ ?_
            rintro ⟨k, ok⟩ w93 ⟨h93, l93, G93, hok⟩
            try dsimp only at *
            refine CW.seq ?_
            refine CW.seq ?_
            refine CW.region ?_
            refine WL.q (.int .i64 (k : Int)) (by kernel_rfl) rfl (by kernel_rfl) (by kernel_rfl) ?_
            refine WL.q (.pointer (some ⟨b71, 2, none⟩)) (by kernel_rfl) rfl (by kernel_rfl) (by kernel_rfl) ?_
            refine WL.q (.string ((v).s)) (by kernel_rfl) rfl (by kernel_rfl) (q_load (off := 2) rfl (by kernel_rfl) (by kernel_rfl) (G93.imm _ _ (l93 _ _ hb71)) (by kernel_rfl)) ?_
            refine WL.q (.int .i64 (((v).s).size : Int)) (by kernel_rfl) rfl (by kernel_rfl) (by kernel_rfl) ?_
            refine WL.q (.bool (decide ((k : Int) < (((v).s).size : Int)))) (by kernel_rfl) rfl (by kernel_rfl) (by kernel_rfl) ?_
            refine WL.nil ?_
            refine EX.then_code ?_
            refine CW.cond (decide ((k : Int) < (((v).s).size : Int))) (by kernel_rfl) (by kernel_rfl) (fun c94 => ?_) (fun c94 => ?_)
            ·
              skip
              have d95 := of_decide_eq_true c94
              refine CW.skip ?_
              refine EX.then_code ?_
              refine CW.seq ?_
              refine CW.block ?_
              refine CW.region ?_
              refine WL.q (.bool ok) (by kernel_rfl) rfl (by kernel_rfl) (by kernel_rfl) ?_
              refine WL.q (.bool ok) (by kernel_rfl) rfl (by kernel_rfl) (by kernel_rfl) ?_
              rcases bool_cases ok with c96 | c96
              ·
                skip
                refine WL.know 43 (.bool true) (x := .bool ok) (by kernel_rfl) (congrArg Value.bool c96) ?_
                refine WL.q (.pointer (some ⟨b71, 2, none⟩)) (by kernel_rfl) rfl (by kernel_rfl) (by kernel_rfl) ?_
                refine WL.q (.string ((v).s)) (by kernel_rfl) rfl (by kernel_rfl) (q_load (off := 2) rfl (by kernel_rfl) (by kernel_rfl) (G93.imm _ _ (l93 _ _ hb71)) (by kernel_rfl)) ?_
                refine WL.q (.int .i64 (k : Int)) (by kernel_rfl) rfl (by kernel_rfl) (by kernel_rfl) ?_
                refine WL.q (.int .u8 (byteAt ((v).s) k : Int)) (by kernel_rfl) rfl (by kernel_rfl) (q_strIndex (s := ((v).s)) (k := .i64) (i := k) rfl (by kernel_rfl) (by kernel_rfl) (by kernel_rfl) (by omega)) ?_
                refine WL.call (by kernel_rfl) rfl (by kernel_rfl) (by kernel_rfl) (sign_spec (c := (byteAt ((v).s) k)) G93 (byteAt_lt _ _)) (Ret.elim ?_)
                rintro w98 h98 _ l98 G98 ⟨bs98, rfl⟩
                refine WL.q (.bool bs98) (by kernel_rfl) rfl (by kernel_rfl) (by kernel_rfl) ?_
                refine WL.q (.bool bs98) (by kernel_rfl) rfl (by kernel_rfl) (by kernel_rfl) ?_
                refine WL.nil ?_
                refine EX.in_block ?_
                refine EX.then_code ?_
                refine CW.region ?_
                refine WL.q (.int .i64 (k : Int)) (by kernel_rfl) rfl (by kernel_rfl) (by kernel_rfl) ?_
                refine WL.q (.int .i64 ((k + 1 : Nat) : Int)) (by kernel_rfl) rfl (by kernel_rfl) (q_int (x := IntKind.i64.wrap ((k : Int) + 1)) (by kernel_rfl) (wrap_to (by omega) (by omega) (by omega))) ?_
                refine WL.q (.int .i64 ((k + 1 : Nat) : Int)) (by kernel_rfl) rfl (by kernel_rfl) (by kernel_rfl) ?_
                refine WL.nil ?_
                exact EX.then_loop ⟨k + 1, bs98⟩ ⟨(by kernel_rfl), (by kernel_rfl), (by kernel_rfl), (lk_int (x := ((k + 1 : Nat) : Int)) (by kernel_rfl) (by first | omega | (dsimp only; done) | (dsimp only; omega))), trivial⟩ ⟨h98, (l93.trans l98), G98, (fun e_ => by first | (dsimp only at e_; cases e_; done) | exact hok (by assumption) | omega)⟩ (by first | omega | (dsimp only; omega))
              ·
                skip
                refine WL.know 43 (.bool false) (x := .bool ok) (by kernel_rfl) (congrArg Value.bool c96) ?_
                refine WL.skip (by kernel_rfl) rfl (by kernel_rfl) ?_
                refine WL.skip (by kernel_rfl) rfl (by kernel_rfl) ?_
                refine WL.skip (by kernel_rfl) rfl (by kernel_rfl) ?_
                refine WL.skip (by kernel_rfl) rfl (by kernel_rfl) ?_
                refine WL.skip (by kernel_rfl) rfl (by kernel_rfl) ?_
                refine WL.q (.bool false) (by kernel_rfl) rfl (by kernel_rfl) (by kernel_rfl) ?_
                refine WL.q (.bool false) (by kernel_rfl) rfl (by kernel_rfl) (by kernel_rfl) ?_
                refine WL.nil ?_
                refine EX.in_block ?_
                refine EX.then_code ?_
                refine CW.region ?_
                refine WL.q (.int .i64 (k : Int)) (by kernel_rfl) rfl (by kernel_rfl) (by kernel_rfl) ?_
                refine WL.q (.int .i64 ((k + 1 : Nat) : Int)) (by kernel_rfl) rfl (by kernel_rfl) (q_int (x := IntKind.i64.wrap ((k : Int) + 1)) (by kernel_rfl) (wrap_to (by omega) (by omega) (by omega))) ?_
                refine WL.q (.int .i64 ((k + 1 : Nat) : Int)) (by kernel_rfl) rfl (by kernel_rfl) (by kernel_rfl) ?_
                refine WL.nil ?_
                exact EX.then_loop ⟨k + 1, false⟩ ⟨(by kernel_rfl), (by kernel_rfl), (by kernel_rfl), (lk_int (x := ((k + 1 : Nat) : Int)) (by kernel_rfl) (by first | omega | (dsimp only; done) | (dsimp only; omega))), trivial⟩ ⟨h93, l93, G93, (fun e_ => by first | (dsimp only at e_; cases e_; done) | exact hok (by assumption) | omega)⟩ (by first | omega | (dsimp only; omega))
            ·
              skip
              have d100 := of_decide_eq_false c94
              refine CW.exit ?_
              refine EX.exit_then ?_
              refine EX.exit_then ?_
              refine EX.exit_here ?_
              refine EX.then_code ?_
              refine CW.seq ?_
              refine CW.region ?_
              refine WL.q (.bool ok) (by kernel_rfl) rfl (by kernel_rfl) (by kernel_rfl) ?_
              refine WL.q (.bool ok) (by kernel_rfl) rfl (by kernel_rfl) (by kernel_rfl) ?_
              refine WL.nil ?_
              refine EX.then_code ?_
              refine CW.ret ?_
              refine EX.ret_block ?_
              refine EX.ret_then ?_
              refine EX.ret1 (v := (.bool ok)) rfl (by kernel_rfl) ?_
              exact Ret.mk (l71.trans l93) G93 (⟨_, rfl, fun e_ => Nat.le_trans (hok e_) (by decide)⟩)
        ·
          skip
          have d101 := of_decide_eq_false c79
          refine WL.know 23 (.bool false) (x := .bool (decide ((((v).s).size : Int) ≥ 1))) (by kernel_rfl) (congrArg Value.bool c79) ?_
          refine WL.skip (by kernel_rfl) rfl (by kernel_rfl) ?_
          refine WL.skip (by kernel_rfl) rfl (by kernel_rfl) ?_
          refine WL.skip (by kernel_rfl) rfl (by kernel_rfl) ?_
          refine WL.skip (by kernel_rfl) rfl (by kernel_rfl) ?_
          refine WL.q (.bool false) (by kernel_rfl) rfl (by kernel_rfl) (by kernel_rfl) ?_
          refine WL.q (.bool false) (by kernel_rfl) rfl (by kernel_rfl) (by kernel_rfl) ?_
          refine WL.skip (by kernel_rfl) rfl (by kernel_rfl) ?_
          refine WL.skip (by kernel_rfl) rfl (by kernel_rfl) ?_
          refine WL.skip (by kernel_rfl) rfl (by kernel_rfl) ?_
          refine WL.skip (by kernel_rfl) rfl (by kernel_rfl) ?_
          refine WL.q (.bool false) (by kernel_rfl) rfl (by kernel_rfl) (by kernel_rfl) ?_
          refine WL.q (.bool false) (by kernel_rfl) rfl (by kernel_rfl) (by kernel_rfl) ?_
          refine WL.nil ?_
          refine EX.then_code ?_
          refine CW.seq ?_
          refine CW.seq ?_
          refine CW.region ?_
          refine WL.q (.int .i64 0) (by kernel_rfl) rfl (by kernel_rfl) (by kernel_rfl) ?_
          refine WL.nil ?_
          refine EX.then_code ?_
          refine CW.block ?_
          refine CW.loop (β := Nat × Bool) (fun x_ => [(1, (.pointer (some ⟨b71, 0, none⟩))), (2, (.bool false)), (3, (.bool x_.2)), (4, (.int .i64 (x_.1 : Int)))]) (fun x_ w_ => ∃ h_, (PH.le h71 h_) ∧ (Wld K w_ h_ M) ∧ (x_.2 = true → v.s.size ≤ 40)) (fun x_ => v.s.size - x_.1) ⟨0, false⟩ ⟨(by kernel_rfl), (by kernel_rfl), (by kernel_rfl), (lk_int (x := 0) (by kernel_rfl) (by first | omega | (dsimp only; done) | (dsimp only; omega))), trivial⟩ ⟨h71, (PH.le_refl _), G71, (fun e_ => by first | omega | (exact absurd e_ (by decide)) | (simp_all; omega))⟩ ?_
          rintro ⟨k, ok⟩ w102 ⟨h102, l102, G102, hok⟩
          try dsimp only at *
          refine CW.seq ?_
          refine CW.seq ?_
          refine CW.region ?_
          refine WL.q (.int .i64 (k : Int)) (by kernel_rfl) rfl (by kernel_rfl) (by kernel_rfl) ?_
          refine WL.q (.pointer (some ⟨b71, 2, none⟩)) (by kernel_rfl) rfl (by kernel_rfl) (by kernel_rfl) ?_
          refine WL.q (.string ((v).s)) (by kernel_rfl) rfl (by kernel_rfl) (q_load (off := 2) rfl (by kernel_rfl) (by kernel_rfl) (G102.imm _ _ (l102 _ _ hb71)) (by kernel_rfl)) ?_
          refine WL.q (.int .i64 (((v).s).size : Int)) (by kernel_rfl) rfl (by kernel_rfl) (by kernel_rfl) ?_
          refine WL.q (.bool (decide ((k : Int) < (((v).s).size : Int)))) (by kernel_rfl) rfl (by kernel_rfl) (by kernel_rfl) ?_
          refine WL.nil ?_
          refine EX.then_code ?_
          refine CW.cond (decide ((k : Int) < (((v).s).size : Int))) (by kernel_rfl) (by kernel_rfl) (fun c103 => ?_) (fun c103 => ?_)
          ·
            skip
            have d104 := of_decide_eq_true c103
            refine CW.skip ?_
            refine EX.then_code ?_
            refine CW.seq ?_
            refine CW.block ?_
            refine CW.region ?_
            refine WL.q (.bool ok) (by kernel_rfl) rfl (by kernel_rfl) (by kernel_rfl) ?_
            refine WL.q (.bool ok) (by kernel_rfl) rfl (by kernel_rfl) (by kernel_rfl) ?_
            rcases bool_cases ok with c105 | c105
            ·
              skip
              refine WL.know 43 (.bool true) (x := .bool ok) (by kernel_rfl) (congrArg Value.bool c105) ?_
              refine WL.q (.pointer (some ⟨b71, 2, none⟩)) (by kernel_rfl) rfl (by kernel_rfl) (by kernel_rfl) ?_
              refine WL.q (.string ((v).s)) (by kernel_rfl) rfl (by kernel_rfl) (q_load (off := 2) rfl (by kernel_rfl) (by kernel_rfl) (G102.imm _ _ (l102 _ _ hb71)) (by kernel_rfl)) ?_
              refine WL.q (.int .i64 (k : Int)) (by kernel_rfl) rfl (by kernel_rfl) (by kernel_rfl) ?_
              refine WL.q (.int .u8 (byteAt ((v).s) k : Int)) (by kernel_rfl) rfl (by kernel_rfl) (q_strIndex (s := ((v).s)) (k := .i64) (i := k) rfl (by kernel_rfl) (by kernel_rfl) (by kernel_rfl) (by omega)) ?_
              refine WL.call (by kernel_rfl) rfl (by kernel_rfl) (by kernel_rfl) (sign_spec (c := (byteAt ((v).s) k)) G102 (byteAt_lt _ _)) (Ret.elim ?_)
              rintro w107 h107 _ l107 G107 ⟨bs107, rfl⟩
              refine WL.q (.bool bs107) (by kernel_rfl) rfl (by kernel_rfl) (by kernel_rfl) ?_
              refine WL.q (.bool bs107) (by kernel_rfl) rfl (by kernel_rfl) (by kernel_rfl) ?_
              refine WL.nil ?_
              refine EX.in_block ?_
              refine EX.then_code ?_
              refine CW.region ?_
              refine WL.q (.int .i64 (k : Int)) (by kernel_rfl) rfl (by kernel_rfl) (by kernel_rfl) ?_
              refine WL.q (.int .i64 ((k + 1 : Nat) : Int)) (by kernel_rfl) rfl (by kernel_rfl) (q_int (x := IntKind.i64.wrap ((k : Int) + 1)) (by kernel_rfl) (wrap_to (by omega) (by omega) (by omega))) ?_
              refine WL.q (.int .i64 ((k + 1 : Nat) : Int)) (by kernel_rfl) rfl (by kernel_rfl) (by kernel_rfl) ?_
              refine WL.nil ?_
              exact EX.then_loop ⟨k + 1, bs107⟩ ⟨(by kernel_rfl), (by kernel_rfl), (by kernel_rfl), (lk_int (x := ((k + 1 : Nat) : Int)) (by kernel_rfl) (by first | omega | (dsimp only; done) | (dsimp only; omega))), trivial⟩ ⟨h107, (l102.trans l107), G107, (fun e_ => by first | (dsimp only at e_; cases e_; done) | exact hok (by assumption) | omega)⟩ (by first | omega | (dsimp only; omega))
            ·
              skip
              refine WL.know 43 (.bool false) (x := .bool ok) (by kernel_rfl) (congrArg Value.bool c105) ?_
              refine WL.skip (by kernel_rfl) rfl (by kernel_rfl) ?_
              refine WL.skip (by kernel_rfl) rfl (by kernel_rfl) ?_
              refine WL.skip (by kernel_rfl) rfl (by kernel_rfl) ?_
              refine WL.skip (by kernel_rfl) rfl (by kernel_rfl) ?_
              refine WL.skip (by kernel_rfl) rfl (by kernel_rfl) ?_
              refine WL.q (.bool false) (by kernel_rfl) rfl (by kernel_rfl) (by kernel_rfl) ?_
              refine WL.q (.bool false) (by kernel_rfl) rfl (by kernel_rfl) (by kernel_rfl) ?_
              refine WL.nil ?_
              refine EX.in_block ?_
              refine EX.then_code ?_
              refine CW.region ?_
              refine WL.q (.int .i64 (k : Int)) (by kernel_rfl) rfl (by kernel_rfl) (by kernel_rfl) ?_
              refine WL.q (.int .i64 ((k + 1 : Nat) : Int)) (by kernel_rfl) rfl (by kernel_rfl) (q_int (x := IntKind.i64.wrap ((k : Int) + 1)) (by kernel_rfl) (wrap_to (by omega) (by omega) (by omega))) ?_
              refine WL.q (.int .i64 ((k + 1 : Nat) : Int)) (by kernel_rfl) rfl (by kernel_rfl) (by kernel_rfl) ?_
              refine WL.nil ?_
              exact EX.then_loop ⟨k + 1, false⟩ ⟨(by kernel_rfl), (by kernel_rfl), (by kernel_rfl), (lk_int (x := ((k + 1 : Nat) : Int)) (by kernel_rfl) (by first | omega | (dsimp only; done) | (dsimp only; omega))), trivial⟩ ⟨h102, l102, G102, (fun e_ => by first | (dsimp only at e_; cases e_; done) | exact hok (by assumption) | omega)⟩ (by first | omega | (dsimp only; omega))
          ·
            skip
            have d109 := of_decide_eq_false c103
            refine CW.exit ?_
            refine EX.exit_then ?_
            refine EX.exit_then ?_
            refine EX.exit_here ?_
            refine EX.then_code ?_
            refine CW.seq ?_
            refine CW.region ?_
            refine WL.q (.bool ok) (by kernel_rfl) rfl (by kernel_rfl) (by kernel_rfl) ?_
            refine WL.q (.bool ok) (by kernel_rfl) rfl (by kernel_rfl) (by kernel_rfl) ?_
            refine WL.nil ?_
            refine EX.then_code ?_
            refine CW.ret ?_
            refine EX.ret_block ?_
            refine EX.ret_then ?_
            refine EX.ret1 (v := (.bool ok)) rfl (by kernel_rfl) ?_
            exact Ret.mk (l71.trans l102) G102 (⟨_, rfl, fun e_ => Nat.le_trans (hok e_) (by decide)⟩)
      ·
        skip
        have d110 := ne_of_beq_false c77
        refine WL.know 17 (.bool false) (x := .bool (((v).i : Int) == 0)) (by kernel_rfl) (congrArg Value.bool c77) ?_
        refine WL.skip (by kernel_rfl) rfl (by kernel_rfl) ?_
        refine WL.skip (by kernel_rfl) rfl (by kernel_rfl) ?_
        refine WL.skip (by kernel_rfl) rfl (by kernel_rfl) ?_
        refine WL.skip (by kernel_rfl) rfl (by kernel_rfl) ?_
        refine WL.q (.bool false) (by kernel_rfl) rfl (by kernel_rfl) (by kernel_rfl) ?_
        refine WL.q (.bool false) (by kernel_rfl) rfl (by kernel_rfl) (by kernel_rfl) ?_
        refine WL.skip (by kernel_rfl) rfl (by kernel_rfl) ?_
        refine WL.skip (by kernel_rfl) rfl (by kernel_rfl) ?_
        refine WL.skip (by kernel_rfl) rfl (by kernel_rfl) ?_
        refine WL.skip (by kernel_rfl) rfl (by kernel_rfl) ?_
        refine WL.q (.bool false) (by kernel_rfl) rfl (by kernel_rfl) (by kernel_rfl) ?_
        refine WL.q (.bool false) (by kernel_rfl) rfl (by kernel_rfl) (by kernel_rfl) ?_
        refine WL.skip (by kernel_rfl) rfl (by kernel_rfl) ?_
        refine WL.skip (by kernel_rfl) rfl (by kernel_rfl) ?_
        refine WL.skip (by kernel_rfl) rfl (by kernel_rfl) ?_
        refine WL.skip (by kernel_rfl) rfl (by kernel_rfl) ?_
        refine WL.q (.bool false) (by kernel_rfl) rfl (by kernel_rfl) (by kernel_rfl) ?_
        refine WL.q (.bool false) (by kernel_rfl) rfl (by kernel_rfl) (by kernel_rfl) ?_
        refine WL.nil ?_
        refine EX.then_code ?_
        refine CW.seq ?_
        refine CW.seq ?_
        refine CW.region ?_
        refine WL.q (.int .i64 0) (by kernel_rfl) rfl (by kernel_rfl) (by kernel_rfl) ?_
        refine WL.nil ?_
        refine EX.then_code ?_
        refine CW.block ?_
        refine CW.loop (β := Nat × Bool) (fun x_ => [(1, (.pointer (some ⟨b71, 0, none⟩))), (2, (.bool false)), (3, (.bool x_.2)), (4, (.int .i64 (x_.1 : Int)))]) (fun x_ w_ => ∃ h_, (PH.le h71 h_) ∧ (Wld K w_ h_ M) ∧ (x_.2 = true → v.s.size ≤ 40)) (fun x_ => v.s.size - x_.1) ⟨0, false⟩ ⟨(by kernel_rfl), (by kernel_rfl), (by kernel_rfl), (lk_int (x := 0) (by kernel_rfl) (by first | omega | (dsimp only; done) | (dsimp only; omega))), trivial⟩ ⟨h71, (PH.le_refl _), G71, (fun e_ => by first | omega | (exact absurd e_ (by decide)) | (simp_all; omega))⟩ ?_
        rintro ⟨k, ok⟩ w111 ⟨h111, l111, G111, hok⟩
        try dsimp only at *
        refine CW.seq ?_
        refine CW.seq ?_
        refine CW.region ?_
        refine WL.q (.int .i64 (k : Int)) (by kernel_rfl) rfl (by kernel_rfl) (by kernel_rfl) ?_
        refine WL.q (.pointer (some ⟨b71, 2, none⟩)) (by kernel_rfl) rfl (by kernel_rfl) (by kernel_rfl) ?_
        refine WL.q (.string ((v).s)) (by kernel_rfl) rfl (by kernel_rfl) (q_load (off := 2) rfl (by kernel_rfl) (by kernel_rfl) (G111.imm _ _ (l111 _ _ hb71)) (by kernel_rfl)) ?_
        refine WL.q (.int .i64 (((v).s).size : Int)) (by kernel_rfl) rfl (by kernel_rfl) (by kernel_rfl) ?_
        refine WL.q (.bool (decide ((k : Int) < (((v).s).size : Int)))) (by kernel_rfl) rfl (by kernel_rfl) (by kernel_rfl) ?_
        refine WL.nil ?_
        refine EX.then_code ?_
        refine CW.cond (decide ((k : Int) < (((v).s).size : Int))) (by kernel_rfl) (by kernel_rfl) (fun c112 => ?_) (fun c112 => ?_)
        ·
          skip
          have d113 := of_decide_eq_true c112
          refine CW.skip ?_
          refine EX.then_code ?_
          refine CW.seq ?_
          refine CW.block ?_
          refine CW.region ?_
          refine WL.q (.bool ok) (by kernel_rfl) rfl (by kernel_rfl) (by kernel_rfl) ?_
          refine WL.q (.bool ok) (by kernel_rfl) rfl (by kernel_rfl) (by kernel_rfl) ?_
          rcases bool_cases ok with c114 | c114
          ·
            skip
            refine WL.know 43 (.bool true) (x := .bool ok) (by kernel_rfl) (congrArg Value.bool c114) ?_
            refine WL.q (.pointer (some ⟨b71, 2, none⟩)) (by kernel_rfl) rfl (by kernel_rfl) (by kernel_rfl) ?_
            refine WL.q (.string ((v).s)) (by kernel_rfl) rfl (by kernel_rfl) (q_load (off := 2) rfl (by kernel_rfl) (by kernel_rfl) (G111.imm _ _ (l111 _ _ hb71)) (by kernel_rfl)) ?_
            refine WL.q (.int .i64 (k : Int)) (by kernel_rfl) rfl (by kernel_rfl) (by kernel_rfl) ?_
            refine WL.q (.int .u8 (byteAt ((v).s) k : Int)) (by kernel_rfl) rfl (by kernel_rfl) (q_strIndex (s := ((v).s)) (k := .i64) (i := k) rfl (by kernel_rfl) (by kernel_rfl) (by kernel_rfl) (by omega)) ?_
            refine WL.call (by kernel_rfl) rfl (by kernel_rfl) (by kernel_rfl) (sign_spec (c := (byteAt ((v).s) k)) G111 (byteAt_lt _ _)) (Ret.elim ?_)
            rintro w116 h116 _ l116 G116 ⟨bs116, rfl⟩
            refine WL.q (.bool bs116) (by kernel_rfl) rfl (by kernel_rfl) (by kernel_rfl) ?_
            refine WL.q (.bool bs116) (by kernel_rfl) rfl (by kernel_rfl) (by kernel_rfl) ?_
            refine WL.nil ?_
            refine EX.in_block ?_
            refine EX.then_code ?_
            refine CW.region ?_
            refine WL.q (.int .i64 (k : Int)) (by kernel_rfl) rfl (by kernel_rfl) (by kernel_rfl) ?_
            refine WL.q (.int .i64 ((k + 1 : Nat) : Int)) (by kernel_rfl) rfl (by kernel_rfl) (q_int (x := IntKind.i64.wrap ((k : Int) + 1)) (by kernel_rfl) (wrap_to (by omega) (by omega) (by omega))) ?_
            refine WL.q (.int .i64 ((k + 1 : Nat) : Int)) (by kernel_rfl) rfl (by kernel_rfl) (by kernel_rfl) ?_
            refine WL.nil ?_
            exact EX.then_loop ⟨k + 1, bs116⟩ ⟨(by kernel_rfl), (by kernel_rfl), (by kernel_rfl), (lk_int (x := ((k + 1 : Nat) : Int)) (by kernel_rfl) (by first | omega | (dsimp only; done) | (dsimp only; omega))), trivial⟩ ⟨h116, (l111.trans l116), G116, (fun e_ => by first | (dsimp only at e_; cases e_; done) | exact hok (by assumption) | omega)⟩ (by first | omega | (dsimp only; omega))
          ·
            skip
            refine WL.know 43 (.bool false) (x := .bool ok) (by kernel_rfl) (congrArg Value.bool c114) ?_
            refine WL.skip (by kernel_rfl) rfl (by kernel_rfl) ?_
            refine WL.skip (by kernel_rfl) rfl (by kernel_rfl) ?_
            refine WL.skip (by kernel_rfl) rfl (by kernel_rfl) ?_
            refine WL.skip (by kernel_rfl) rfl (by kernel_rfl) ?_
            refine WL.skip (by kernel_rfl) rfl (by kernel_rfl) ?_
            refine WL.q (.bool false) (by kernel_rfl) rfl (by kernel_rfl) (by kernel_rfl) ?_
            refine WL.q (.bool false) (by kernel_rfl) rfl (by kernel_rfl) (by kernel_rfl) ?_
            refine WL.nil ?_
            refine EX.in_block ?_
            refine EX.then_code ?_
            refine CW.region ?_
            refine WL.q (.int .i64 (k : Int)) (by kernel_rfl) rfl (by kernel_rfl) (by kernel_rfl) ?_
            refine WL.q (.int .i64 ((k + 1 : Nat) : Int)) (by kernel_rfl) rfl (by kernel_rfl) (q_int (x := IntKind.i64.wrap ((k : Int) + 1)) (by kernel_rfl) (wrap_to (by omega) (by omega) (by omega))) ?_
            refine WL.q (.int .i64 ((k + 1 : Nat) : Int)) (by kernel_rfl) rfl (by kernel_rfl) (by kernel_rfl) ?_
            refine WL.nil ?_
            exact EX.then_loop ⟨k + 1, false⟩ ⟨(by kernel_rfl), (by kernel_rfl), (by kernel_rfl), (lk_int (x := ((k + 1 : Nat) : Int)) (by kernel_rfl) (by first | omega | (dsimp only; done) | (dsimp only; omega))), trivial⟩ ⟨h111, l111, G111, (fun e_ => by first | (dsimp only at e_; cases e_; done) | exact hok (by assumption) | omega)⟩ (by first | omega | (dsimp only; omega))
        ·
          skip
          have d118 := of_decide_eq_false c112
          refine CW.exit ?_
          refine EX.exit_then ?_
          refine EX.exit_then ?_
          refine EX.exit_here ?_
          refine EX.then_code ?_
          refine CW.seq ?_
          refine CW.region ?_
          refine WL.q (.bool ok) (by kernel_rfl) rfl (by kernel_rfl) (by kernel_rfl) ?_
          refine WL.q (.bool ok) (by kernel_rfl) rfl (by kernel_rfl) (by kernel_rfl) ?_
          refine WL.nil ?_
          refine EX.then_code ?_
          refine CW.ret ?_
          refine EX.ret_block ?_
          refine EX.ret_then ?_
          refine EX.ret1 (v := (.bool ok)) rfl (by kernel_rfl) ?_
          exact Ret.mk (l71.trans l111) G111 (⟨_, rfl, fun e_ => Nat.le_trans (hok e_) (by decide)⟩)
    ·
      skip
      have d119 := ne_of_beq_false c75
      refine CW.seq ?_
      refine CW.region ?_
      refine WL.q (.bool (((v).k : Int) == 3)) (by kernel_rfl) rfl (by kernel_rfl) (by kernel_rfl) ?_
      refine WL.q (.bool (((v).k : Int) == 3)) (by kernel_rfl) rfl (by kernel_rfl) (by kernel_rfl) ?_
      refine WL.nil ?_
      refine EX.then_code ?_
      refine CW.cond (((v).k : Int) == 3) (by kernel_rfl) (by kernel_rfl) (fun c120 => ?_) (fun c120 => ?_)
      ·
        skip
        have d121 := eq_of_beq c120
        refine CW.seq ?_
        refine CW.region ?_
        refine WL.q (.pointer (some ⟨b71, 1, none⟩)) (by kernel_rfl) rfl (by kernel_rfl) (by kernel_rfl) ?_
        refine WL.q (.int .i64 ((v).i)) (by kernel_rfl) rfl (by kernel_rfl) (q_load (off := 1) rfl (by kernel_rfl) (by kernel_rfl) (G71.imm _ _ ((PH.le_refl _) _ _ hb71)) (by kernel_rfl)) ?_
        refine WL.q (.bool (((v).i : Int) == 0)) (by kernel_rfl) rfl (by kernel_rfl) (by kernel_rfl) ?_
        refine WL.q (.bool (((v).i : Int) == 0)) (by kernel_rfl) rfl (by kernel_rfl) (by kernel_rfl) ?_
        rcases bool_cases (((v).i : Int) == 0) with c122 | c122
        ·
          skip
          have d123 := eq_of_beq c122
          refine WL.know 56 (.bool true) (x := .bool (((v).i : Int) == 0)) (by kernel_rfl) (congrArg Value.bool c122) ?_
          refine WL.q (.pointer (some ⟨b71, 2, none⟩)) (by kernel_rfl) rfl (by kernel_rfl) (by kernel_rfl) ?_
          refine WL.q (.string ((v).s)) (by kernel_rfl) rfl (by kernel_rfl) (q_load (off := 2) rfl (by kernel_rfl) (by kernel_rfl) (G71.imm _ _ ((PH.le_refl _) _ _ hb71)) (by kernel_rfl)) ?_
          refine WL.q (.int .i64 (((v).s).size : Int)) (by kernel_rfl) rfl (by kernel_rfl) (by kernel_rfl) ?_
          refine WL.q (.bool (decide ((((v).s).size : Int) ≤ 1000))) (by kernel_rfl) rfl (by kernel_rfl) (by kernel_rfl) ?_
          refine WL.q (.bool (decide ((((v).s).size : Int) ≤ 1000))) (by kernel_rfl) rfl (by kernel_rfl) (by kernel_rfl) ?_
          refine WL.q (.bool (decide ((((v).s).size : Int) ≤ 1000))) (by kernel_rfl) rfl (by kernel_rfl) (by kernel_rfl) ?_
          refine WL.nil ?_
          refine EX.then_code ?_
          refine CW.ret ?_
          refine EX.ret_block ?_
          refine EX.ret_then ?_
          refine EX.ret1 (v := (.bool (decide ((((v).s).size : Int) ≤ 1000)))) rfl (by kernel_rfl) ?_
          exact Ret.mk l71 G71 (⟨_, rfl, fun e_ => by have q_ := of_decide_eq_true e_; omega⟩)
        ·
          skip
          have d124 := ne_of_beq_false c122
          refine WL.know 56 (.bool false) (x := .bool (((v).i : Int) == 0)) (by kernel_rfl) (congrArg Value.bool c122) ?_
          refine WL.skip (by kernel_rfl) rfl (by kernel_rfl) ?_
          refine WL.skip (by kernel_rfl) rfl (by kernel_rfl) ?_
          refine WL.skip (by kernel_rfl) rfl (by kernel_rfl) ?_
          refine WL.skip (by kernel_rfl) rfl (by kernel_rfl) ?_
          refine WL.q (.bool false) (by kernel_rfl) rfl (by kernel_rfl) (by kernel_rfl) ?_
          refine WL.q (.bool false) (by kernel_rfl) rfl (by kernel_rfl) (by kernel_rfl) ?_
          refine WL.nil ?_
          refine EX.then_code ?_
          refine CW.ret ?_
          refine EX.ret_block ?_
          refine EX.ret_then ?_
          refine EX.ret1 (v := (.bool false)) rfl (by kernel_rfl) ?_
          exact Ret.mk l71 G71 (⟨_, rfl, fun e_ => absurd e_ (by decide)⟩)
      ·
        skip
        have d125 := ne_of_beq_false c120
        refine CW.skip ?_
        refine EX.in_block ?_
        refine EX.then_code ?_
        refine CW.seq ?_
        refine CW.region ?_
        refine WL.q (.bool false) (by kernel_rfl) rfl (by kernel_rfl) (by kernel_rfl) ?_
        refine WL.nil ?_
        refine EX.then_code ?_
        refine CW.ret ?_
        refine EX.ret1 (v := (.bool false)) rfl (by kernel_rfl) ?_
        exact Ret.mk l71 G71 (⟨_, rfl, fun e_ => absurd e_ (by decide)⟩)
end Go.Proofs
