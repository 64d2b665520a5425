import Derived.Test.YtcogbcnnehkddaaT6
import Derived.Test.YtcogbcnnehkddaaFl
namespace Go.Proofs
open Go Go.Wk
theorem known_spec {K : Key} {w : World} {h M : PH} (G : Wld K w h M) :
    Calls Try.prog 5 #[] w (Ret K h M fun _ v => v = .bool true) := by
  refine enter (l := []) Try.func5 rfl Try.ntmps5 (Nat.le_of_ble_eq_true rfl) ?_
  simp only [params]
  refine CW.seq ?_
  refine CW.region ?_
  refine WL.q (.bool false) (by kernel_rfl) rfl (by kernel_rfl) (by kernel_rfl) ?_
  refine WL.nil ?_
  refine EX.then_code ?_
  refine CW.seq ?_
  refine CW.region ?_
  refine WL.call (by kernel_rfl) rfl (by kernel_rfl) (by kernel_rfl) (newT_spec G) (RetM.elim ?_)
  rintro w1 h1 M1 _ l1 G1 ⟨p1, rfl, A1⟩
  refine WL.q (.pointer (some ⟨p1, 0, none⟩)) (by kernel_rfl) rfl (by kernel_rfl) (by kernel_rfl) ?_
  refine WL.nil ?_
  refine EX.then_code ?_
  refine CW.seq ?_
  refine CW.seq ?_
  refine CW.region ?_
  refine WL.q (.pointer (some ⟨p1, 0, none⟩)) (by kernel_rfl) rfl (by kernel_rfl) (by kernel_rfl) ?_
  refine WL.q (.bool false) (by kernel_rfl) rfl (by kernel_rfl) (by kernel_rfl) ?_
  refine WL.nil ?_
  refine EX.then_code ?_
  refine CW.cond_f (by kernel_rfl) (by kernel_rfl) ?_
  refine CW.skip ?_
  refine EX.then_code ?_
  refine CW.seq ?_
  refine CW.region ?_
  refine WL.q (.pointer (some ⟨p1, 0, none⟩)) (by kernel_rfl) rfl (by kernel_rfl) (by kernel_rfl) ?_
  refine WL.call (by kernel_rfl) rfl (by kernel_rfl) (by kernel_rfl) (addT_yes G1 A1 (by decide) (by omega) (by omega) 0 5 (by decide)) (RetM.elim ?_)
  rintro w2 h2 M2 _ l2 G2 ⟨rfl, A2⟩
  refine WL.q (.tuple #[(.int .i64 (0 + 1)), (.int .i64 0)]) (by kernel_rfl) rfl (by kernel_rfl) (by kernel_rfl) ?_
  refine WL.q (.int .i64 (0 + 1)) (by kernel_rfl) rfl (by kernel_rfl) (by kernel_rfl) ?_
  refine WL.q (.int .i64 0) (by kernel_rfl) rfl (by kernel_rfl) (by kernel_rfl) ?_
  refine WL.q (.int .i64 (0 + 1)) (by kernel_rfl) rfl (by kernel_rfl) (by kernel_rfl) ?_
  refine WL.q (.int .i64 0) (by kernel_rfl) rfl (by kernel_rfl) (by kernel_rfl) ?_
  refine WL.nil ?_
  refine EX.then_code ?_
  refine CW.seq ?_
  refine CW.region ?_
  refine WL.q (.pointer (some ⟨p1, 0, none⟩)) (by kernel_rfl) rfl (by kernel_rfl) (by kernel_rfl) ?_
  refine WL.q (.int .i64 (0 + 1)) (by kernel_rfl) rfl (by kernel_rfl) (by kernel_rfl) ?_
  refine WL.call (by kernel_rfl) rfl (by kernel_rfl) (by kernel_rfl) (addT_yes G2 A2 (by decide) (by omega) (by omega) (0 + 1) 6 (by decide)) (RetM.elim ?_)
  rintro w3 h3 M3 _ l3 G3 ⟨rfl, A3⟩
  refine WL.q (.tuple #[(.int .i64 ((0 + 1) + 1)), (.int .i64 0)]) (by kernel_rfl) rfl (by kernel_rfl) (by kernel_rfl) ?_
  refine WL.q (.int .i64 ((0 + 1) + 1)) (by kernel_rfl) rfl (by kernel_rfl) (by kernel_rfl) ?_
  refine WL.q (.int .i64 0) (by kernel_rfl) rfl (by kernel_rfl) (by kernel_rfl) ?_
  refine WL.q (.int .i64 ((0 + 1) + 1)) (by kernel_rfl) rfl (by kernel_rfl) (by kernel_rfl) ?_
  refine WL.q (.int .i64 0) (by kernel_rfl) rfl (by kernel_rfl) (by kernel_rfl) ?_
  refine WL.nil ?_
  refine EX.then_code ?_
  refine CW.seq ?_
  refine CW.region ?_
  refine WL.q (.pointer (some ⟨p1, 0, none⟩)) (by kernel_rfl) rfl (by kernel_rfl) (by kernel_rfl) ?_
  refine WL.call (by kernel_rfl) rfl (by kernel_rfl) (by kernel_rfl) (addT_no G3 A3 (by decide) 9 1 (by decide)) (RetM.elim ?_)
  rintro w4 h4 M4 _ l4 G4 ⟨rfl, A4⟩
  refine WL.q (.tuple #[(.int .i64 0), (.int .i64 5)]) (by kernel_rfl) rfl (by kernel_rfl) (by kernel_rfl) ?_
  refine WL.q (.int .i64 0) (by kernel_rfl) rfl (by kernel_rfl) (by kernel_rfl) ?_
  refine WL.q (.int .i64 5) (by kernel_rfl) rfl (by kernel_rfl) (by kernel_rfl) ?_
  refine WL.q (.int .i64 0) (by kernel_rfl) rfl (by kernel_rfl) (by kernel_rfl) ?_
  refine WL.q (.int .i64 5) (by kernel_rfl) rfl (by kernel_rfl) (by kernel_rfl) ?_
  refine WL.nil ?_
  refine EX.then_code ?_
  refine CW.seq ?_
  refine CW.region ?_
  refine WL.q (.pointer (some ⟨p1, 0, none⟩)) (by kernel_rfl) rfl (by kernel_rfl) (by kernel_rfl) ?_
  refine WL.q (.int .i64 ((0 + 1) + 1)) (by kernel_rfl) rfl (by kernel_rfl) (by kernel_rfl) ?_
  have cp5 := pathT_spec G4 A4 (by decide) ((0 + 1) + 1)
  rw [decide_eq_true (by decide)] at cp5
  refine WL.call (by kernel_rfl) rfl (by kernel_rfl) (by kernel_rfl) cp5 (Ret.elim ?_)
  rintro w5 h5 _ l5 G5 ⟨ap5, rfl, rp5⟩
  refine WL.q (.tuple #[(.slice ap5 ((pathN ((([] : List Tok) ++ [Tok.mk (0 + 1) 0 5]) ++ [Tok.mk ((0 + 1) + 1) (0 + 1) 6]) (((([] : List Tok) ++ [Tok.mk (0 + 1) 0 5]) ++ [Tok.mk ((0 + 1) + 1) (0 + 1) 6]).length + 1) ((0 + 1) + 1)).length) ((pathN ((([] : List Tok) ++ [Tok.mk (0 + 1) 0 5]) ++ [Tok.mk ((0 + 1) + 1) (0 + 1) 6]) (((([] : List Tok) ++ [Tok.mk (0 + 1) 0 5]) ++ [Tok.mk ((0 + 1) + 1) (0 + 1) 6]).length + 1) ((0 + 1) + 1)).length)), (.bool true)]) (by kernel_rfl) rfl (by kernel_rfl) (by kernel_rfl) ?_
  refine WL.q (.slice ap5 ((pathN ((([] : List Tok) ++ [Tok.mk (0 + 1) 0 5]) ++ [Tok.mk ((0 + 1) + 1) (0 + 1) 6]) (((([] : List Tok) ++ [Tok.mk (0 + 1) 0 5]) ++ [Tok.mk ((0 + 1) + 1) (0 + 1) 6]).length + 1) ((0 + 1) + 1)).length) ((pathN ((([] : List Tok) ++ [Tok.mk (0 + 1) 0 5]) ++ [Tok.mk ((0 + 1) + 1) (0 + 1) 6]) (((([] : List Tok) ++ [Tok.mk (0 + 1) 0 5]) ++ [Tok.mk ((0 + 1) + 1) (0 + 1) 6]).length + 1) ((0 + 1) + 1)).length)) (by kernel_rfl) rfl (by kernel_rfl) (by kernel_rfl) ?_
  refine WL.q (.bool true) (by kernel_rfl) rfl (by kernel_rfl) (by kernel_rfl) ?_
  refine WL.q (.slice ap5 ((pathN ((([] : List Tok) ++ [Tok.mk (0 + 1) 0 5]) ++ [Tok.mk ((0 + 1) + 1) (0 + 1) 6]) (((([] : List Tok) ++ [Tok.mk (0 + 1) 0 5]) ++ [Tok.mk ((0 + 1) + 1) (0 + 1) 6]).length + 1) ((0 + 1) + 1)).length) ((pathN ((([] : List Tok) ++ [Tok.mk (0 + 1) 0 5]) ++ [Tok.mk ((0 + 1) + 1) (0 + 1) 6]) (((([] : List Tok) ++ [Tok.mk (0 + 1) 0 5]) ++ [Tok.mk ((0 + 1) + 1) (0 + 1) 6]).length + 1) ((0 + 1) + 1)).length)) (by kernel_rfl) rfl (by kernel_rfl) (by kernel_rfl) ?_
  refine WL.q (.bool true) (by kernel_rfl) rfl (by kernel_rfl) (by kernel_rfl) ?_
  refine WL.nil ?_
  refine EX.then_code ?_
  refine CW.seq ?_
  refine CW.region ?_
  refine WL.q (.pointer (some ⟨p1, 0, none⟩)) (by kernel_rfl) rfl (by kernel_rfl) (by kernel_rfl) ?_
  refine WL.call (by kernel_rfl) rfl (by kernel_rfl) (by kernel_rfl) (kidsT_spec G5 A4 (by decide) 0) (Ret.elim ?_)
  rintro w6 h6 _ l6 G6 ⟨ak6, rfl, rk6⟩
  refine WL.q (.slice ak6 ((kidsOf ((([] : List Tok) ++ [Tok.mk (0 + 1) 0 5]) ++ [Tok.mk ((0 + 1) + 1) (0 + 1) 6]) 0).length) ((kidsOf ((([] : List Tok) ++ [Tok.mk (0 + 1) 0 5]) ++ [Tok.mk ((0 + 1) + 1) (0 + 1) 6]) 0).length)) (by kernel_rfl) rfl (by kernel_rfl) (by kernel_rfl) ?_
  refine WL.nil ?_
  refine EX.then_code ?_
  refine CW.seq ?_
  refine CW.region ?_
  refine WL.q (.pointer (some ⟨p1, 0, none⟩)) (by kernel_rfl) rfl (by kernel_rfl) (by kernel_rfl) ?_
  refine WL.call (by kernel_rfl) rfl (by kernel_rfl) (by kernel_rfl) (dropT_spec G6 A4 (by decide) (by omega) 5) (RetM.elim ?_)
  rintro w7 h7 M7 _ l7 G7 ⟨ad7, rfl, rd7, A7⟩
  refine WL.q (.slice ad7 ((idsF ((([] : List Tok) ++ [Tok.mk (0 + 1) 0 5]) ++ [Tok.mk ((0 + 1) + 1) (0 + 1) 6]) (factsOf ((([] : List Tok) ++ [Tok.mk (0 + 1) 0 5]) ++ [Tok.mk ((0 + 1) + 1) (0 + 1) 6]) 5)).length) ((idsF ((([] : List Tok) ++ [Tok.mk (0 + 1) 0 5]) ++ [Tok.mk ((0 + 1) + 1) (0 + 1) 6]) (factsOf ((([] : List Tok) ++ [Tok.mk (0 + 1) 0 5]) ++ [Tok.mk ((0 + 1) + 1) (0 + 1) 6]) 5)).length)) (by kernel_rfl) rfl (by kernel_rfl) (by kernel_rfl) ?_
  refine WL.nil ?_
  refine EX.then_code ?_
  refine CW.seq ?_
  refine CW.region ?_
  refine WL.q (.int .i64 0) (by kernel_rfl) rfl (by kernel_rfl) (by kernel_rfl) ?_
  refine WL.q (.int .i64 0) (by kernel_rfl) rfl (by kernel_rfl) (by kernel_rfl) ?_
  refine WL.q (.int .i64 (0 + 0)) (by kernel_rfl) rfl (by kernel_rfl) (q_int (x := IntKind.i64.wrap (0 + 0)) (by kernel_rfl) (wrap_to (by omega) (by omega) (by omega))) ?_
  refine WL.q (.bool ((0 + 0 : Int) == 0)) (by kernel_rfl) rfl (by kernel_rfl) (by kernel_rfl) ?_
  refine WL.q (.bool ((0 + 0 : Int) == 0)) (by kernel_rfl) rfl (by kernel_rfl) (by kernel_rfl) ?_
  rcases bool_cases ((0 + 0 : Int) == 0) with c8 | c8
  ·
    skip
    have d9 := eq_of_beq c8
    refine WL.know 45 (.bool true) (x := .bool ((0 + 0 : Int) == 0)) (by kernel_rfl) (congrArg Value.bool c8) ?_
    refine WL.q (.int .i64 (0 + 1)) (by kernel_rfl) rfl (by kernel_rfl) (by kernel_rfl) ?_
    refine WL.q (.bool (((0 + 1) : Int) == 1)) (by kernel_rfl) rfl (by kernel_rfl) (by kernel_rfl) ?_
    refine WL.q (.bool (((0 + 1) : Int) == 1)) (by kernel_rfl) rfl (by kernel_rfl) (by kernel_rfl) ?_
    refine WL.q (.bool (((0 + 1) : Int) == 1)) (by kernel_rfl) rfl (by kernel_rfl) (by kernel_rfl) ?_
    rcases bool_cases (((0 + 1) : Int) == 1) with c10 | c10
    ·
      skip
      have d11 := eq_of_beq c10
      refine WL.know 49 (.bool true) (x := .bool (((0 + 1) : Int) == 1)) (by kernel_rfl) (congrArg Value.bool c10) ?_
      refine WL.q (.int .i64 ((0 + 1) + 1)) (by kernel_rfl) rfl (by kernel_rfl) (by kernel_rfl) ?_
      refine WL.q (.bool ((((0 + 1) + 1) : Int) == 2)) (by kernel_rfl) rfl (by kernel_rfl) (by kernel_rfl) ?_
      refine WL.q (.bool ((((0 + 1) + 1) : Int) == 2)) (by kernel_rfl) rfl (by kernel_rfl) (by kernel_rfl) ?_
      refine WL.q (.bool ((((0 + 1) + 1) : Int) == 2)) (by kernel_rfl) rfl (by kernel_rfl) (by kernel_rfl) ?_
      rcases bool_cases ((((0 + 1) + 1) : Int) == 2) with c12 | c12
      ·
        skip
        have d13 := eq_of_beq c12
        refine WL.know 53 (.bool true) (x := .bool ((((0 + 1) + 1) : Int) == 2)) (by kernel_rfl) (congrArg Value.bool c12) ?_
        refine WL.q (.int .i64 5) (by kernel_rfl) rfl (by kernel_rfl) (by kernel_rfl) ?_
        refine WL.q (.bool true) (by kernel_rfl) rfl (by kernel_rfl) (by kernel_rfl) ?_
        refine WL.q (.bool true) (by kernel_rfl) rfl (by kernel_rfl) (by kernel_rfl) ?_
        refine WL.q (.bool true) (by kernel_rfl) rfl (by kernel_rfl) (by kernel_rfl) ?_
        refine WL.q (.slice ap5 ((pathN ((([] : List Tok) ++ [Tok.mk (0 + 1) 0 5]) ++ [Tok.mk ((0 + 1) + 1) (0 + 1) 6]) (((([] : List Tok) ++ [Tok.mk (0 + 1) 0 5]) ++ [Tok.mk ((0 + 1) + 1) (0 + 1) 6]).length + 1) ((0 + 1) + 1)).length) ((pathN ((([] : List Tok) ++ [Tok.mk (0 + 1) 0 5]) ++ [Tok.mk ((0 + 1) + 1) (0 + 1) 6]) (((([] : List Tok) ++ [Tok.mk (0 + 1) 0 5]) ++ [Tok.mk ((0 + 1) + 1) (0 + 1) 6]).length + 1) ((0 + 1) + 1)).length)) (by kernel_rfl) rfl (by kernel_rfl) (by kernel_rfl) ?_
        refine WL.new (ob := (.cells #[(.int .i64 5), (.int .i64 6)] 3)) G7 (by kernel_rfl) rfl (by kernel_rfl) (fun b_ => .slice (some ⟨b_, 0, none⟩) 2 2) (fun u_ => by kernel_rfl) ?_
        intro b14 w14 n14 i14 G14
        obtain ⟨h15, l15, G15, hb15⟩ := G14.frz n14
        have r15 : RS h15 intE (some ⟨b14, 0, none⟩) [5, 6] := RS.blk hb15 (by kernel_rfl)
        have hil16 : (pathN ((([] : List Tok) ++ [Tok.mk (0 + 1) 0 5]) ++ [Tok.mk ((0 + 1) + 1) (0 + 1) 6]) (((([] : List Tok) ++ [Tok.mk (0 + 1) 0 5]) ++ [Tok.mk ((0 + 1) + 1) (0 + 1) 6]).length + 1) ((0 + 1) + 1)).length ≤ 1000000 := by decide
        refine WL.call (by kernel_rfl) rfl (by kernel_rfl) (by kernel_rfl) (ints_spec (ax := ap5) (ay := (some ⟨b14, 0, none⟩)) (xs := (pathN ((([] : List Tok) ++ [Tok.mk (0 + 1) 0 5]) ++ [Tok.mk ((0 + 1) + 1) (0 + 1) 6]) (((([] : List Tok) ++ [Tok.mk (0 + 1) 0 5]) ++ [Tok.mk ((0 + 1) + 1) (0 + 1) 6]).length + 1) ((0 + 1) + 1))) (ys := ([5, 6])) (cx := ((pathN ((([] : List Tok) ++ [Tok.mk (0 + 1) 0 5]) ++ [Tok.mk ((0 + 1) + 1) (0 + 1) 6]) (((([] : List Tok) ++ [Tok.mk (0 + 1) 0 5]) ++ [Tok.mk ((0 + 1) + 1) (0 + 1) 6]).length + 1) ((0 + 1) + 1)).length)) (cy := 2) G15 (rp5.mono ((((PH.le_refl _).trans l6).trans l7).trans l15)) (r15.mono (PH.le_refl _)) (by assumption)) (Ret.elim ?_)
        rintro w17 h17 _ l17 G17 rfl
        refine WL.know 60 (.bool true) (x := .bool (decide ((pathN ((([] : List Tok) ++ [Tok.mk (0 + 1) 0 5]) ++ [Tok.mk ((0 + 1) + 1) (0 + 1) 6]) (((([] : List Tok) ++ [Tok.mk (0 + 1) 0 5]) ++ [Tok.mk ((0 + 1) + 1) (0 + 1) 6]).length + 1) ((0 + 1) + 1)) = [5, 6]))) (by kernel_rfl) (congrArg Value.bool (by decide)) ?_
        refine WL.q (.bool true) (by kernel_rfl) rfl (by kernel_rfl) (by kernel_rfl) ?_
        refine WL.q (.bool true) (by kernel_rfl) rfl (by kernel_rfl) (by kernel_rfl) ?_
        refine WL.q (.bool true) (by kernel_rfl) rfl (by kernel_rfl) (by kernel_rfl) ?_
        refine WL.q (.bool true) (by kernel_rfl) rfl (by kernel_rfl) (by kernel_rfl) ?_
        refine WL.q (.bool true) (by kernel_rfl) rfl (by kernel_rfl) (by kernel_rfl) ?_
        refine WL.q (.slice ak6 ((kidsOf ((([] : List Tok) ++ [Tok.mk (0 + 1) 0 5]) ++ [Tok.mk ((0 + 1) + 1) (0 + 1) 6]) 0).length) ((kidsOf ((([] : List Tok) ++ [Tok.mk (0 + 1) 0 5]) ++ [Tok.mk ((0 + 1) + 1) (0 + 1) 6]) 0).length)) (by kernel_rfl) rfl (by kernel_rfl) (by kernel_rfl) ?_
        refine WL.new (ob := (.cells #[(.int .i64 1)] 3)) G17 (by kernel_rfl) rfl (by kernel_rfl) (fun b_ => .slice (some ⟨b_, 0, none⟩) 1 1) (fun u_ => by kernel_rfl) ?_
        intro b18 w18 n18 i18 G18
        obtain ⟨h19, l19, G19, hb19⟩ := G18.frz n18
        have r19 : RS h19 intE (some ⟨b18, 0, none⟩) [1] := RS.blk hb19 (by kernel_rfl)
        have hil20 : (kidsOf ((([] : List Tok) ++ [Tok.mk (0 + 1) 0 5]) ++ [Tok.mk ((0 + 1) + 1) (0 + 1) 6]) 0).length ≤ 1000000 := by decide
        refine WL.call (by kernel_rfl) rfl (by kernel_rfl) (by kernel_rfl) (ints_spec (ax := ak6) (ay := (some ⟨b18, 0, none⟩)) (xs := (kidsOf ((([] : List Tok) ++ [Tok.mk (0 + 1) 0 5]) ++ [Tok.mk ((0 + 1) + 1) (0 + 1) 6]) 0)) (ys := ([1])) (cx := ((kidsOf ((([] : List Tok) ++ [Tok.mk (0 + 1) 0 5]) ++ [Tok.mk ((0 + 1) + 1) (0 + 1) 6]) 0).length)) (cy := 1) G19 (rk6.mono (((((PH.le_refl _).trans l7).trans l15).trans l17).trans l19)) (r19.mono (PH.le_refl _)) (by assumption)) (Ret.elim ?_)
        rintro w21 h21 _ l21 G21 rfl
        refine WL.know 68 (.bool true) (x := .bool (decide ((kidsOf ((([] : List Tok) ++ [Tok.mk (0 + 1) 0 5]) ++ [Tok.mk ((0 + 1) + 1) (0 + 1) 6]) 0) = [1]))) (by kernel_rfl) (congrArg Value.bool (by decide)) ?_
        refine WL.q (.bool true) (by kernel_rfl) rfl (by kernel_rfl) (by kernel_rfl) ?_
        refine WL.q (.bool true) (by kernel_rfl) rfl (by kernel_rfl) (by kernel_rfl) ?_
        refine WL.q (.slice ad7 ((idsF ((([] : List Tok) ++ [Tok.mk (0 + 1) 0 5]) ++ [Tok.mk ((0 + 1) + 1) (0 + 1) 6]) (factsOf ((([] : List Tok) ++ [Tok.mk (0 + 1) 0 5]) ++ [Tok.mk ((0 + 1) + 1) (0 + 1) 6]) 5)).length) ((idsF ((([] : List Tok) ++ [Tok.mk (0 + 1) 0 5]) ++ [Tok.mk ((0 + 1) + 1) (0 + 1) 6]) (factsOf ((([] : List Tok) ++ [Tok.mk (0 + 1) 0 5]) ++ [Tok.mk ((0 + 1) + 1) (0 + 1) 6]) 5)).length)) (by kernel_rfl) rfl (by kernel_rfl) (by kernel_rfl) ?_
        refine WL.new (ob := (.cells #[(.int .i64 1), (.int .i64 2)] 3)) G21 (by kernel_rfl) rfl (by kernel_rfl) (fun b_ => .slice (some ⟨b_, 0, none⟩) 2 2) (fun u_ => by kernel_rfl) ?_
        intro b22 w22 n22 i22 G22
        obtain ⟨h23, l23, G23, hb23⟩ := G22.frz n22
        have r23 : RS h23 intE (some ⟨b22, 0, none⟩) [1, 2] := RS.blk hb23 (by kernel_rfl)
        have hil24 : (idsF ((([] : List Tok) ++ [Tok.mk (0 + 1) 0 5]) ++ [Tok.mk ((0 + 1) + 1) (0 + 1) 6]) (factsOf ((([] : List Tok) ++ [Tok.mk (0 + 1) 0 5]) ++ [Tok.mk ((0 + 1) + 1) (0 + 1) 6]) 5)).length ≤ 1000000 := by decide
        refine WL.call (by kernel_rfl) rfl (by kernel_rfl) (by kernel_rfl) (ints_spec (ax := ad7) (ay := (some ⟨b22, 0, none⟩)) (xs := (idsF ((([] : List Tok) ++ [Tok.mk (0 + 1) 0 5]) ++ [Tok.mk ((0 + 1) + 1) (0 + 1) 6]) (factsOf ((([] : List Tok) ++ [Tok.mk (0 + 1) 0 5]) ++ [Tok.mk ((0 + 1) + 1) (0 + 1) 6]) 5))) (ys := ([1, 2])) (cx := ((idsF ((([] : List Tok) ++ [Tok.mk (0 + 1) 0 5]) ++ [Tok.mk ((0 + 1) + 1) (0 + 1) 6]) (factsOf ((([] : List Tok) ++ [Tok.mk (0 + 1) 0 5]) ++ [Tok.mk ((0 + 1) + 1) (0 + 1) 6]) 5)).length)) (cy := 2) G23 (rd7.mono ((((((PH.le_refl _).trans l15).trans l17).trans l19).trans l21).trans l23)) (r23.mono (PH.le_refl _)) (by assumption)) (Ret.elim ?_)
        rintro w25 h25 _ l25 G25 rfl
        refine WL.know 73 (.bool true) (x := .bool (decide ((idsF ((([] : List Tok) ++ [Tok.mk (0 + 1) 0 5]) ++ [Tok.mk ((0 + 1) + 1) (0 + 1) 6]) (factsOf ((([] : List Tok) ++ [Tok.mk (0 + 1) 0 5]) ++ [Tok.mk ((0 + 1) + 1) (0 + 1) 6]) 5)) = [1, 2]))) (by kernel_rfl) (congrArg Value.bool (by decide)) ?_
        refine WL.q (.bool true) (by kernel_rfl) rfl (by kernel_rfl) (by kernel_rfl) ?_
        refine WL.q (.bool true) (by kernel_rfl) rfl (by kernel_rfl) (by kernel_rfl) ?_
        refine WL.q (.pointer (some ⟨p1, 0, none⟩)) (by kernel_rfl) rfl (by kernel_rfl) (by kernel_rfl) ?_
        refine WL.call (by kernel_rfl) rfl (by kernel_rfl) (by kernel_rfl) (lenT_spec (row := (cutF ((([] : List Tok) ++ [Tok.mk (0 + 1) 0 5]) ++ [Tok.mk ((0 + 1) + 1) (0 + 1) 6]) (factsOf ((([] : List Tok) ++ [Tok.mk (0 + 1) 0 5]) ++ [Tok.mk ((0 + 1) + 1) (0 + 1) 6]) 5))) G25 A7 (by decide)) (Ret.elim ?_)
        rintro w26 h26 _ l26 G26 rfl
        refine WL.q (.bool ((((cutF ((([] : List Tok) ++ [Tok.mk (0 + 1) 0 5]) ++ [Tok.mk ((0 + 1) + 1) (0 + 1) 6]) (factsOf ((([] : List Tok) ++ [Tok.mk (0 + 1) 0 5]) ++ [Tok.mk ((0 + 1) + 1) (0 + 1) 6]) 5)).length : Int) : Int) == 0)) (by kernel_rfl) rfl (by kernel_rfl) (by kernel_rfl) ?_
        refine WL.q (.bool ((((cutF ((([] : List Tok) ++ [Tok.mk (0 + 1) 0 5]) ++ [Tok.mk ((0 + 1) + 1) (0 + 1) 6]) (factsOf ((([] : List Tok) ++ [Tok.mk (0 + 1) 0 5]) ++ [Tok.mk ((0 + 1) + 1) (0 + 1) 6]) 5)).length : Int) : Int) == 0)) (by kernel_rfl) rfl (by kernel_rfl) (by kernel_rfl) ?_
        refine WL.q (.bool ((((cutF ((([] : List Tok) ++ [Tok.mk (0 + 1) 0 5]) ++ [Tok.mk ((0 + 1) + 1) (0 + 1) 6]) (factsOf ((([] : List Tok) ++ [Tok.mk (0 + 1) 0 5]) ++ [Tok.mk ((0 + 1) + 1) (0 + 1) 6]) 5)).length : Int) : Int) == 0)) (by kernel_rfl) rfl (by kernel_rfl) (by kernel_rfl) ?_
        refine WL.nil ?_
        refine EX.then_code ?_
        refine CW.ret ?_
        refine EX.ret1 (v := (.bool ((((cutF ((([] : List Tok) ++ [Tok.mk (0 + 1) 0 5]) ++ [Tok.mk ((0 + 1) + 1) (0 + 1) 6]) (factsOf ((([] : List Tok) ++ [Tok.mk (0 + 1) 0 5]) ++ [Tok.mk ((0 + 1) + 1) (0 + 1) 6]) 5)).length : Int) : Int) == 0))) rfl (by kernel_rfl) ?_
        exact Ret.mk (((((((((((((((PH.le_refl _).trans l1).trans l2).trans l3).trans l4).trans l5).trans l6).trans l7).trans l15).trans l17).trans l19).trans l21).trans l23).trans l25).trans l26) (G26.drop A7.le) (by simp only [Value.bool.injEq]; decide)
      ·
        skip
        have d27 := ne_of_beq_false c12
        refine WL.know 53 (.bool false) (x := .bool ((((0 + 1) + 1) : Int) == 2)) (by kernel_rfl) (congrArg Value.bool c12) ?_
        refine WL.skip (by kernel_rfl) rfl (by kernel_rfl) ?_
        refine WL.skip (by kernel_rfl) rfl (by kernel_rfl) ?_
        refine WL.q (.bool false) (by kernel_rfl) rfl (by kernel_rfl) (by kernel_rfl) ?_
        refine WL.q (.bool false) (by kernel_rfl) rfl (by kernel_rfl) (by kernel_rfl) ?_
        refine WL.skip (by kernel_rfl) rfl (by kernel_rfl) ?_
        refine WL.skip (by kernel_rfl) rfl (by kernel_rfl) ?_
        refine WL.skip (by kernel_rfl) rfl (by kernel_rfl) ?_
        refine WL.q (.bool false) (by kernel_rfl) rfl (by kernel_rfl) (by kernel_rfl) ?_
        refine WL.q (.bool false) (by kernel_rfl) rfl (by kernel_rfl) (by kernel_rfl) ?_
        refine WL.skip (by kernel_rfl) rfl (by kernel_rfl) ?_
        refine WL.q (.bool false) (by kernel_rfl) rfl (by kernel_rfl) (by kernel_rfl) ?_
        refine WL.q (.bool false) (by kernel_rfl) rfl (by kernel_rfl) (by kernel_rfl) ?_
        refine WL.skip (by kernel_rfl) rfl (by kernel_rfl) ?_
        refine WL.skip (by kernel_rfl) rfl (by kernel_rfl) ?_
        refine WL.skip (by kernel_rfl) rfl (by kernel_rfl) ?_
        refine WL.q (.bool false) (by kernel_rfl) rfl (by kernel_rfl) (by kernel_rfl) ?_
        refine WL.q (.bool false) (by kernel_rfl) rfl (by kernel_rfl) (by kernel_rfl) ?_
        refine WL.skip (by kernel_rfl) rfl (by kernel_rfl) ?_
        refine WL.skip (by kernel_rfl) rfl (by kernel_rfl) ?_
        refine WL.skip (by kernel_rfl) rfl (by kernel_rfl) ?_
        refine WL.q (.bool false) (by kernel_rfl) rfl (by kernel_rfl) (by kernel_rfl) ?_
        refine WL.q (.bool false) (by kernel_rfl) rfl (by kernel_rfl) (by kernel_rfl) ?_
        refine WL.skip (by kernel_rfl) rfl (by kernel_rfl) ?_
        refine WL.skip (by kernel_rfl) rfl (by kernel_rfl) ?_
        refine WL.skip (by kernel_rfl) rfl (by kernel_rfl) ?_
        refine WL.q (.bool false) (by kernel_rfl) rfl (by kernel_rfl) (by kernel_rfl) ?_
        refine WL.q (.bool false) (by kernel_rfl) rfl (by kernel_rfl) (by kernel_rfl) ?_
        refine WL.nil ?_
        refine EX.then_code ?_
        refine CW.ret ?_
        refine EX.ret1 (v := (.bool false)) rfl (by kernel_rfl) ?_
        first | (exfalso; omega) | (exfalso; simp only [List.length_append, List.length_cons, List.length_nil, List.nil_append] at *; omega) | (exfalso; simp_all; done)
    ·
      skip
      have d28 := ne_of_beq_false c10
      refine WL.know 49 (.bool false) (x := .bool (((0 + 1) : Int) == 1)) (by kernel_rfl) (congrArg Value.bool c10) ?_
      refine WL.skip (by kernel_rfl) rfl (by kernel_rfl) ?_
      refine WL.skip (by kernel_rfl) rfl (by kernel_rfl) ?_
      refine WL.q (.bool false) (by kernel_rfl) rfl (by kernel_rfl) (by kernel_rfl) ?_
      refine WL.q (.bool false) (by kernel_rfl) rfl (by kernel_rfl) (by kernel_rfl) ?_
      refine WL.skip (by kernel_rfl) rfl (by kernel_rfl) ?_
      refine WL.skip (by kernel_rfl) rfl (by kernel_rfl) ?_
      refine WL.q (.bool false) (by kernel_rfl) rfl (by kernel_rfl) (by kernel_rfl) ?_
      refine WL.q (.bool false) (by kernel_rfl) rfl (by kernel_rfl) (by kernel_rfl) ?_
      refine WL.skip (by kernel_rfl) rfl (by kernel_rfl) ?_
      refine WL.skip (by kernel_rfl) rfl (by kernel_rfl) ?_
      refine WL.skip (by kernel_rfl) rfl (by kernel_rfl) ?_
      refine WL.q (.bool false) (by kernel_rfl) rfl (by kernel_rfl) (by kernel_rfl) ?_
      refine WL.q (.bool false) (by kernel_rfl) rfl (by kernel_rfl) (by kernel_rfl) ?_
      refine WL.skip (by kernel_rfl) rfl (by kernel_rfl) ?_
      refine WL.q (.bool false) (by kernel_rfl) rfl (by kernel_rfl) (by kernel_rfl) ?_
      refine WL.q (.bool false) (by kernel_rfl) rfl (by kernel_rfl) (by kernel_rfl) ?_
      refine WL.skip (by kernel_rfl) rfl (by kernel_rfl) ?_
      refine WL.skip (by kernel_rfl) rfl (by kernel_rfl) ?_
      refine WL.skip (by kernel_rfl) rfl (by kernel_rfl) ?_
      refine WL.q (.bool false) (by kernel_rfl) rfl (by kernel_rfl) (by kernel_rfl) ?_
      refine WL.q (.bool false) (by kernel_rfl) rfl (by kernel_rfl) (by kernel_rfl) ?_
      refine WL.skip (by kernel_rfl) rfl (by kernel_rfl) ?_
      refine WL.skip (by kernel_rfl) rfl (by kernel_rfl) ?_
      refine WL.skip (by kernel_rfl) rfl (by kernel_rfl) ?_
      refine WL.q (.bool false) (by kernel_rfl) rfl (by kernel_rfl) (by kernel_rfl) ?_
      refine WL.q (.bool false) (by kernel_rfl) rfl (by kernel_rfl) (by kernel_rfl) ?_
      refine WL.skip (by kernel_rfl) rfl (by kernel_rfl) ?_
      refine WL.skip (by kernel_rfl) rfl (by kernel_rfl) ?_
      refine WL.skip (by kernel_rfl) rfl (by kernel_rfl) ?_
      refine WL.q (.bool false) (by kernel_rfl) rfl (by kernel_rfl) (by kernel_rfl) ?_
      refine WL.q (.bool false) (by kernel_rfl) rfl (by kernel_rfl) (by kernel_rfl) ?_
      refine WL.nil ?_
      refine EX.then_code ?_
      refine CW.ret ?_
      refine EX.ret1 (v := (.bool false)) rfl (by kernel_rfl) ?_
      first | (exfalso; omega) | (exfalso; simp only [List.length_append, List.length_cons, List.length_nil, List.nil_append] at *; omega) | (exfalso; simp_all; done)
  ·
    skip
    have d29 := ne_of_beq_false c8
    refine WL.know 45 (.bool false) (x := .bool ((0 + 0 : Int) == 0)) (by kernel_rfl) (congrArg Value.bool c8) ?_
    refine WL.skip (by kernel_rfl) rfl (by kernel_rfl) ?_
    refine WL.skip (by kernel_rfl) rfl (by kernel_rfl) ?_
    refine WL.q (.bool false) (by kernel_rfl) rfl (by kernel_rfl) (by kernel_rfl) ?_
    refine WL.q (.bool false) (by kernel_rfl) rfl (by kernel_rfl) (by kernel_rfl) ?_
    refine WL.skip (by kernel_rfl) rfl (by kernel_rfl) ?_
    refine WL.skip (by kernel_rfl) rfl (by kernel_rfl) ?_
    refine WL.q (.bool false) (by kernel_rfl) rfl (by kernel_rfl) (by kernel_rfl) ?_
    refine WL.q (.bool false) (by kernel_rfl) rfl (by kernel_rfl) (by kernel_rfl) ?_
    refine WL.skip (by kernel_rfl) rfl (by kernel_rfl) ?_
    refine WL.skip (by kernel_rfl) rfl (by kernel_rfl) ?_
    refine WL.q (.bool false) (by kernel_rfl) rfl (by kernel_rfl) (by kernel_rfl) ?_
    refine WL.q (.bool false) (by kernel_rfl) rfl (by kernel_rfl) (by kernel_rfl) ?_
    refine WL.skip (by kernel_rfl) rfl (by kernel_rfl) ?_
    refine WL.skip (by kernel_rfl) rfl (by kernel_rfl) ?_
    refine WL.skip (by kernel_rfl) rfl (by kernel_rfl) ?_
    refine WL.q (.bool false) (by kernel_rfl) rfl (by kernel_rfl) (by kernel_rfl) ?_
    refine WL.q (.bool false) (by kernel_rfl) rfl (by kernel_rfl) (by kernel_rfl) ?_
    refine WL.skip (by kernel_rfl) rfl (by kernel_rfl) ?_
    refine WL.q (.bool false) (by kernel_rfl) rfl (by kernel_rfl) (by kernel_rfl) ?_
    refine WL.q (.bool false) (by kernel_rfl) rfl (by kernel_rfl) (by kernel_rfl) ?_
    refine WL.skip (by kernel_rfl) rfl (by kernel_rfl) ?_
    refine WL.skip (by kernel_rfl) rfl (by kernel_rfl) ?_
    refine WL.skip (by kernel_rfl) rfl (by kernel_rfl) ?_
    refine WL.q (.bool false) (by kernel_rfl) rfl (by kernel_rfl) (by kernel_rfl) ?_
    refine WL.q (.bool false) (by kernel_rfl) rfl (by kernel_rfl) (by kernel_rfl) ?_
    refine WL.skip (by kernel_rfl) rfl (by kernel_rfl) ?_
    refine WL.skip (by kernel_rfl) rfl (by kernel_rfl) ?_
    refine WL.skip (by kernel_rfl) rfl (by kernel_rfl) ?_
    refine WL.q (.bool false) (by kernel_rfl) rfl (by kernel_rfl) (by kernel_rfl) ?_
    refine WL.q (.bool false) (by kernel_rfl) rfl (by kernel_rfl) (by kernel_rfl) ?_
    refine WL.skip (by kernel_rfl) rfl (by kernel_rfl) ?_
    refine WL.skip (by kernel_rfl) rfl (by kernel_rfl) ?_
    refine WL.skip (by kernel_rfl) rfl (by kernel_rfl) ?_
    refine WL.q (.bool false) (by kernel_rfl) rfl (by kernel_rfl) (by kernel_rfl) ?_
    refine WL.q (.bool false) (by kernel_rfl) rfl (by kernel_rfl) (by kernel_rfl) ?_
    refine WL.nil ?_
    refine EX.then_code ?_
    refine CW.ret ?_
    refine EX.ret1 (v := (.bool false)) rfl (by kernel_rfl) ?_
    first | (exfalso; omega) | (exfalso; simp only [List.length_append, List.length_cons, List.length_nil, List.nil_append] at *; omega) | (exfalso; simp_all; done)
end Go.Proofs
