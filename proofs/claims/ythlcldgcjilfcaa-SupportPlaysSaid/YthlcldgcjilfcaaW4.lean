import Derived.Test.YthlcldgcjilfcaaW3
import Derived.Test.YthlcldgcjilfcaaLib17
namespace Go.Proofs
open Go Go.Wk
theorem TabA.cast {h : PH} {t n : Nat} {ds ds' : List RowT} {cm cm' : List WD} {M0 M : PH} (e1 : ds = ds') (e2 : cm = cm') (A : TabA h t ds cm n M0 M) : TabA h t ds' cm' n M0 M := e1 ▸ e2 ▸ A
theorem sort78 : sortInts [7, 8] = [7, 8] := sortInts_id (by simp)

theorem known_spec {K : Key} {w : World} {h M : PH} (G : Wld K w h M) :
    Calls Try.prog 5 #[] w (Ret K h M fun _ v => v = .bool true) := by
  refine enter (l := []) Try.func5 rfl Try.ntmps5 (Nat.le_of_ble_eq_true rfl) ?_
  simp only [params]
  refine CW.seq ?_
  refine CW.region ?_
  refine WL.q (.bool false) (by kernel_rfl) rfl (by kernel_rfl) (by kernel_rfl) ?_
  refine WL.nil ?_
  refine EX.then_code ?_
  refine CW.seq ?_
  refine CW.region ?_
  refine WL.call (by kernel_rfl) rfl (by kernel_rfl) (by kernel_rfl) (newA G) (RetM.elim ?_)
  rintro w1 h1 M1 _ l1 G1 ⟨t, rfl, A1⟩
  refine WL.q (.pointer (some ⟨t, 0, none⟩)) (by kernel_rfl) rfl (by kernel_rfl) (by kernel_rfl) ?_
  refine WL.nil ?_
  refine EX.then_code ?_
  refine CW.seq ?_
  refine CW.seq ?_
  refine CW.region ?_
  refine WL.q (.pointer (some ⟨t, 0, none⟩)) (by kernel_rfl) rfl (by kernel_rfl) (by kernel_rfl) ?_
  refine WL.q (.bool false) (by kernel_rfl) rfl (by kernel_rfl) (by kernel_rfl) ?_
  refine WL.nil ?_
  refine EX.then_code ?_
  refine CW.cond_f (by kernel_rfl) (by kernel_rfl) ?_
  refine CW.skip ?_
  refine EX.then_code ?_
  refine CW.seq ?_
  refine CW.region ?_
  refine WL.ex (by kernel_rfl) rfl (by kernel_rfl) (q_newF (ob := (.cells #[(.int .i64 3)] 3 (0, 0))) G1 (fun b_ => .slice (some ⟨b_, 0, none⟩) 1 1) (fun u_ => by kernel_rfl)) ?_
  rintro _ w2 ⟨b2, h2, rfl, l2, G2, hb2, L2⟩
  have r3 : RS h2 intE (some ⟨b2, 0, none⟩) [3] := RS.blk hb2 (by kernel_rfl)
  refine WL.q (.agg #[(.int .i64 1), (.int .i64 0), (.slice (some ⟨b2, 0, none⟩) 1 1)]) (by kernel_rfl) rfl (by kernel_rfl) (by kernel_rfl) ?_
  refine WL.ex (by kernel_rfl) rfl (by kernel_rfl) (q_newB (ob := (.cells #[(.int .i64 0), (.int .i64 0), (.slice none 0 0)] 28 (0, 0))) G2 (fun b_ => .pointer (some ⟨b_, 0, none⟩)) (fun u_ => by kernel_rfl)) ?_
  rintro _ w4 ⟨b4, M4, rfl, G4, B4, L4⟩
  refine WL.exu (by kernel_rfl) rfl (by kernel_rfl) (q_storeB (off := 0) (et := 28) (v := (.agg #[(.int .i64 1), (.int .i64 0), (.slice (some ⟨b2, 0, none⟩) 1 1)])) (vs := [(.int .i64 1), (.int .i64 0), (.slice (some ⟨b2, 0, none⟩) 1 1)]) #[(.int .i64 1), (.int .i64 0), (.slice (some ⟨b2, 0, none⟩) 1 1)] G4 B4 rfl (by kernel_rfl) (by kernel_rfl) (by kernel_rfl) (by kernel_rfl) (by simp [Value.oneCell']) (by simp) (by kernel_rfl)) ?_
  rintro w5 ⟨M5, G5, B5⟩
  obtain ⟨h6, l6, G6, hb6⟩ := B5.freeze G5
  refine WL.nil ?_
  refine EX.then_code ?_
  refine CW.seq ?_
  refine CW.region ?_
  refine WL.ex (by kernel_rfl) rfl (by kernel_rfl) (q_newF (ob := (.cells #[(.int .i64 4)] 3 (0, 0))) G6 (fun b_ => .slice (some ⟨b_, 0, none⟩) 1 1) (fun u_ => by kernel_rfl)) ?_
  rintro _ w7 ⟨b7, h7, rfl, l7, G7, hb7, L7⟩
  have r8 : RS h7 intE (some ⟨b7, 0, none⟩) [4] := RS.blk hb7 (by kernel_rfl)
  refine WL.q (.agg #[(.int .i64 2), (.int .i64 0), (.slice (some ⟨b7, 0, none⟩) 1 1)]) (by kernel_rfl) rfl (by kernel_rfl) (by kernel_rfl) ?_
  refine WL.ex (by kernel_rfl) rfl (by kernel_rfl) (q_newB (ob := (.cells #[(.int .i64 0), (.int .i64 0), (.slice none 0 0)] 28 (0, 0))) G7 (fun b_ => .pointer (some ⟨b_, 0, none⟩)) (fun u_ => by kernel_rfl)) ?_
  rintro _ w9 ⟨b9, M9, rfl, G9, B9, L9⟩
  refine WL.exu (by kernel_rfl) rfl (by kernel_rfl) (q_storeB (off := 0) (et := 28) (v := (.agg #[(.int .i64 2), (.int .i64 0), (.slice (some ⟨b7, 0, none⟩) 1 1)])) (vs := [(.int .i64 2), (.int .i64 0), (.slice (some ⟨b7, 0, none⟩) 1 1)]) #[(.int .i64 2), (.int .i64 0), (.slice (some ⟨b7, 0, none⟩) 1 1)] G9 B9 rfl (by kernel_rfl) (by kernel_rfl) (by kernel_rfl) (by kernel_rfl) (by simp [Value.oneCell']) (by simp) (by kernel_rfl)) ?_
  rintro w10 ⟨M10, G10, B10⟩
  obtain ⟨h11, l11, G11, hb11⟩ := B10.freeze G10
  refine WL.nil ?_
  refine EX.then_code ?_
  refine CW.seq ?_
  refine CW.region ?_
  refine WL.q (.pointer (some ⟨t, 0, none⟩)) (by kernel_rfl) rfl (by kernel_rfl) (by kernel_rfl) ?_
  refine WL.q (.agg #[(.int .i64 1), (.int .i64 0), (.slice (some ⟨b2, 0, none⟩) 1 1)]) (by kernel_rfl) rfl (by kernel_rfl) (q_loadAgg (off := 0) (vs := [(.int .i64 1), (.int .i64 0), (.slice (some ⟨b2, 0, none⟩) 1 1)]) rfl (by kernel_rfl) (by kernel_rfl) (G11.imm _ _ ((l7.trans l11) _ _ hb6)) (agg_at (by kernel_rfl))) ?_
  refine WL.call (by kernel_rfl) rfl (by kernel_rfl) (by kernel_rfl) (supA_spec G11 (TabA.mono (((l2.trans l6).trans l7).trans l11) A1) 7 (by decide) (by decide) (y := (WhyD.mk 1 0 (some ⟨b2, 0, none⟩) ([3]) 1)) (show whyG h11 (WhyD.mk 1 0 (some ⟨b2, 0, none⟩) ([3]) 1) from ⟨(r3.mono ((l6.trans l7).trans l11)), by simp⟩) (ds' := ([((7 : Int), false, ([] : List WD))] : List RowT)) (k := 0) (.inr ⟨by simp, rfl, rfl⟩)) (RetM.elim ?_)
  rintro w12 h12 M12 _ l12 G12 ⟨rfl, A12⟩
  have B12 : TabA h12 t ([(7, false, [(1, 0, [3])])] : List RowT) ([(1, 0, [3])] : List WD) 1 M M12 := TabA.cast (by first | decide | (dsimp only [datW]; decide)) (by first | rfl | decide | (dsimp only [datW]; decide)) A12
  refine WL.nil ?_
  refine EX.then_code ?_
  refine CW.seq ?_
  refine CW.region ?_
  refine WL.q (.pointer (some ⟨t, 0, none⟩)) (by kernel_rfl) rfl (by kernel_rfl) (by kernel_rfl) ?_
  refine WL.q (.agg #[(.int .i64 2), (.int .i64 0), (.slice (some ⟨b7, 0, none⟩) 1 1)]) (by kernel_rfl) rfl (by kernel_rfl) (q_loadAgg (off := 0) (vs := [(.int .i64 2), (.int .i64 0), (.slice (some ⟨b7, 0, none⟩) 1 1)]) rfl (by kernel_rfl) (by kernel_rfl) (G12.imm _ _ (l12 _ _ hb11)) (agg_at (by kernel_rfl))) ?_
  refine WL.call (by kernel_rfl) rfl (by kernel_rfl) (by kernel_rfl) (supA_spec G12 B12 7 (by decide) (by decide) (y := (WhyD.mk 2 0 (some ⟨b7, 0, none⟩) ([4]) 1)) (show whyG h12 (WhyD.mk 2 0 (some ⟨b7, 0, none⟩) ([4]) 1) from ⟨(r8.mono (l11.trans l12)), by simp⟩) (ds' := ([(7, false, [(1, 0, [3])])] : List RowT)) (k := 0) (.inl ⟨rfl, by decide, rfl⟩)) (RetM.elim ?_)
  rintro w13 h13 M13 _ l13 G13 ⟨rfl, A13⟩
  have B13 : TabA h13 t ([(7, false, [(1, 0, [3]), (2, 0, [4])])] : List RowT) ([(1, 0, [3]), (2, 0, [4])] : List WD) 2 M M13 := TabA.cast (by first | decide | (dsimp only [datW]; decide)) (by first | rfl | decide | (dsimp only [datW]; decide)) A13
  refine WL.nil ?_
  refine EX.then_code ?_
  refine CW.seq ?_
  refine CW.region ?_
  refine WL.q (.pointer (some ⟨t, 0, none⟩)) (by kernel_rfl) rfl (by kernel_rfl) (by kernel_rfl) ?_
  refine WL.call (by kernel_rfl) rfl (by kernel_rfl) (by kernel_rfl) (freeA_spec G13 B13 8 (by decide) (by decide) (ds' := ([(7, false, [(1, 0, [3]), (2, 0, [4])]), (8, false, [])] : List RowT)) (k := 1) (.inr ⟨by simp, rfl, rfl⟩)) (RetM.elim ?_)
  rintro w14 h14 M14 _ l14 G14 ⟨rfl, A14⟩
  skip
  have B14 : TabA h14 t ([(7, false, [(1, 0, [3]), (2, 0, [4])]), (8, true, [])] : List RowT) ([(1, 0, [3]), (2, 0, [4])] : List WD) 3 M M14 := TabA.cast (by first | decide | (dsimp only [datW]; decide)) (by first | rfl | decide | (dsimp only [datW]; decide)) A14
  refine WL.nil ?_
  refine EX.then_code ?_
  refine CW.seq ?_
  refine CW.region ?_
  refine WL.q (.pointer (some ⟨t, 0, none⟩)) (by kernel_rfl) rfl (by kernel_rfl) (by kernel_rfl) ?_
  refine WL.q (.agg #[(.int .i64 1), (.int .i64 0), (.slice (some ⟨b2, 0, none⟩) 1 1)]) (by kernel_rfl) rfl (by kernel_rfl) (q_loadAgg (off := 0) (vs := [(.int .i64 1), (.int .i64 0), (.slice (some ⟨b2, 0, none⟩) 1 1)]) rfl (by kernel_rfl) (by kernel_rfl) (G14.imm _ _ (((((l7.trans l11).trans l12).trans l13).trans l14) _ _ hb6)) (agg_at (by kernel_rfl))) ?_
  refine WL.call (by kernel_rfl) rfl (by kernel_rfl) (by kernel_rfl) (loseA_spec G14 B14 (by decide) (y := (WhyD.mk 1 0 (some ⟨b2, 0, none⟩) ([3]) 1)) (show whyG h14 (WhyD.mk 1 0 (some ⟨b2, 0, none⟩) ([3]) 1) from ⟨(r3.mono (((((l6.trans l7).trans l11).trans l12).trans l13).trans l14)), by simp⟩)) (RetM.elim ?_)
  rintro w15 h15 M15 _ l15 G15 ⟨a15, os15, rfl, r15, q15, A15⟩
  obtain rfl : os15 = ([] : List Int) := by rw [q15, show sortInts (([(7, false, [(1, 0, [3]), (2, 0, [4])]), (8, true, [])] : List RowT).map (·.1)) = [7, 8] from sort78]; dsimp only [datW]; decide
  have B15 : TabA h15 t ([(7, false, [(2, 0, [4])]), (8, true, [])] : List RowT) ([(2, 0, [4])] : List WD) 3 M M15 := TabA.cast (by first | decide | (dsimp only [datW]; decide)) (by first | rfl | decide | (dsimp only [datW]; decide)) A15
  refine WL.q (.slice a15 0 0) (by kernel_rfl) rfl (by kernel_rfl) (by kernel_rfl) ?_
  refine WL.nil ?_
  refine EX.then_code ?_
  refine CW.seq ?_
  refine CW.region ?_
  refine WL.q (.pointer (some ⟨t, 0, none⟩)) (by kernel_rfl) rfl (by kernel_rfl) (by kernel_rfl) ?_
  refine WL.q (.agg #[(.int .i64 2), (.int .i64 0), (.slice (some ⟨b7, 0, none⟩) 1 1)]) (by kernel_rfl) rfl (by kernel_rfl) (q_loadAgg (off := 0) (vs := [(.int .i64 2), (.int .i64 0), (.slice (some ⟨b7, 0, none⟩) 1 1)]) rfl (by kernel_rfl) (by kernel_rfl) (G15.imm _ _ ((((l12.trans l13).trans l14).trans l15) _ _ hb11)) (agg_at (by kernel_rfl))) ?_
  refine WL.call (by kernel_rfl) rfl (by kernel_rfl) (by kernel_rfl) (loseA_spec G15 B15 (by decide) (y := (WhyD.mk 2 0 (some ⟨b7, 0, none⟩) ([4]) 1)) (show whyG h15 (WhyD.mk 2 0 (some ⟨b7, 0, none⟩) ([4]) 1) from ⟨(r8.mono ((((l11.trans l12).trans l13).trans l14).trans l15)), by simp⟩)) (RetM.elim ?_)
  rintro w16 h16 M16 _ l16 G16 ⟨a16, os16, rfl, r16, q16, A16⟩
  obtain rfl : os16 = ([7] : List Int) := by rw [q16, show sortInts (([(7, false, [(2, 0, [4])]), (8, true, [])] : List RowT).map (·.1)) = [7, 8] from sort78]; dsimp only [datW]; decide
  have B16 : TabA h16 t ([(7, false, []), (8, true, [])] : List RowT) ([] : List WD) 3 M M16 := TabA.cast (by first | decide | (dsimp only [datW]; decide)) (by first | rfl | decide | (dsimp only [datW]; decide)) A16
  refine WL.q (.slice a16 1 1) (by kernel_rfl) rfl (by kernel_rfl) (by kernel_rfl) ?_
  refine WL.nil ?_
  refine EX.then_code ?_
  refine CW.seq ?_
  refine CW.region ?_
  refine WL.q (.pointer (some ⟨t, 0, none⟩)) (by kernel_rfl) rfl (by kernel_rfl) (by kernel_rfl) ?_
  refine WL.call (by kernel_rfl) rfl (by kernel_rfl) (by kernel_rfl) (whyA_spec G16 B16 (PH.le_refl _) (by decide) (k := 1) (by decide) (f := 8) rfl) (Ret.elim ?_)
  rintro w17 h17 _ l17 G17 ⟨a17, fs17, rfl, r17, g17, q17⟩
  obtain rfl : fs17 = [] := by simpa [List.getD] using q17
  refine WL.q (.tuple #[(.slice a17 0 0), (.bool true)]) (by kernel_rfl) rfl (by kernel_rfl) (by kernel_rfl) ?_
  refine WL.q (.slice a17 0 0) (by kernel_rfl) rfl (by kernel_rfl) (by kernel_rfl) ?_
  refine WL.q (.bool true) (by kernel_rfl) rfl (by kernel_rfl) (by kernel_rfl) ?_
  refine WL.q (.slice a17 0 0) (by kernel_rfl) rfl (by kernel_rfl) (by kernel_rfl) ?_
  refine WL.q (.bool true) (by kernel_rfl) rfl (by kernel_rfl) (by kernel_rfl) ?_
  refine WL.nil ?_
  refine EX.then_code ?_
  refine CW.seq ?_
  refine CW.region ?_
  refine WL.q (.slice a15 0 0) (by kernel_rfl) rfl (by kernel_rfl) (by kernel_rfl) ?_
  refine WL.q (.int .i64 0) (by kernel_rfl) rfl (by kernel_rfl) (by kernel_rfl) ?_
  refine WL.q (.bool true) (by kernel_rfl) rfl (by kernel_rfl) (by kernel_rfl) ?_
  refine WL.q (.bool true) (by kernel_rfl) rfl (by kernel_rfl) (by kernel_rfl) ?_
  refine WL.q (.slice a16 1 1) (by kernel_rfl) rfl (by kernel_rfl) (by kernel_rfl) ?_
  refine WL.q (.int .i64 1) (by kernel_rfl) rfl (by kernel_rfl) (by kernel_rfl) ?_
  refine WL.q (.bool true) (by kernel_rfl) rfl (by kernel_rfl) (by kernel_rfl) ?_
  refine WL.q (.bool true) (by kernel_rfl) rfl (by kernel_rfl) (by kernel_rfl) ?_
  refine WL.q (.bool true) (by kernel_rfl) rfl (by kernel_rfl) (by kernel_rfl) ?_
  refine WL.q (.slice a16 1 1) (by kernel_rfl) rfl (by kernel_rfl) (by kernel_rfl) ?_
  refine WL.q (eptr a16 (0 * intE.sz)) (by kernel_rfl) rfl (by kernel_rfl) (q_indexAddr (i := 0) (E := intE) (xs := ([7])) (e := 3) (c := 1) (k := .i64) (m := 1) rfl rfl (by kernel_rfl) (by kernel_rfl) (by kernel_rfl) (r16.mono (l17.trans G17.imm)) (by simp only [List.length_cons, List.length_nil]; omega)) ?_
  refine WL.q (.int .i64 (([7]).getD 0 intE.dflt)) (by kernel_rfl) rfl (by kernel_rfl) (q_load_e (i := 0) (k := 0) (E := intE) rfl (by kernel_rfl) (by kernel_rfl) (r16.mono (l17.trans G17.imm)) (by simp only [List.length_cons, List.length_nil]; omega) (by decide) (by kernel_rfl)) ?_
  refine WL.q (.bool (((([7]).getD 0 intE.dflt) : Int) == 7)) (by kernel_rfl) rfl (by kernel_rfl) (by kernel_rfl) ?_
  refine WL.know 46 (.bool true) (x := (.bool (((([7]).getD 0 intE.dflt) : Int) == 7))) (by kernel_rfl) (congrArg Value.bool (beq_iff_eq.2 (by rfl))) ?_
  refine WL.q (.bool true) (by kernel_rfl) rfl (by kernel_rfl) (by kernel_rfl) ?_
  refine WL.q (.bool true) (by kernel_rfl) rfl (by kernel_rfl) (by kernel_rfl) ?_
  refine WL.q (.pointer (some ⟨t, 0, none⟩)) (by kernel_rfl) rfl (by kernel_rfl) (by kernel_rfl) ?_
  refine WL.call (by kernel_rfl) rfl (by kernel_rfl) (by kernel_rfl) (standsA_spec G17 (TabA.mono l17 B16) (PH.le_refl _) (k := 0) (by decide) (f := 7) rfl) (Ret.elim ?_)
  rintro w18 h18 _ l18 G18 rfl
  refine WL.q (.bool true) (by kernel_rfl) rfl (by kernel_rfl) (by kernel_rfl) ?_
  refine WL.q (.bool true) (by kernel_rfl) rfl (by kernel_rfl) (by kernel_rfl) ?_
  refine WL.q (.bool true) (by kernel_rfl) rfl (by kernel_rfl) (by kernel_rfl) ?_
  refine WL.q (.pointer (some ⟨t, 0, none⟩)) (by kernel_rfl) rfl (by kernel_rfl) (by kernel_rfl) ?_
  refine WL.call (by kernel_rfl) rfl (by kernel_rfl) (by kernel_rfl) (standsA_spec G18 (TabA.mono (l17.trans l18) B16) (PH.le_refl _) (k := 1) (by decide) (f := 8) rfl) (Ret.elim ?_)
  rintro w19 h19 _ l19 G19 rfl
  refine WL.q (.bool true) (by kernel_rfl) rfl (by kernel_rfl) (by kernel_rfl) ?_
  refine WL.q (.bool true) (by kernel_rfl) rfl (by kernel_rfl) (by kernel_rfl) ?_
  refine WL.q (.bool true) (by kernel_rfl) rfl (by kernel_rfl) (by kernel_rfl) ?_
  refine WL.q (.bool true) (by kernel_rfl) rfl (by kernel_rfl) (by kernel_rfl) ?_
  refine WL.q (.bool true) (by kernel_rfl) rfl (by kernel_rfl) (by kernel_rfl) ?_
  refine WL.q (.slice a17 0 0) (by kernel_rfl) rfl (by kernel_rfl) (by kernel_rfl) ?_
  refine WL.q (.int .i64 0) (by kernel_rfl) rfl (by kernel_rfl) (by kernel_rfl) ?_
  refine WL.q (.bool true) (by kernel_rfl) rfl (by kernel_rfl) (by kernel_rfl) ?_
  refine WL.q (.bool true) (by kernel_rfl) rfl (by kernel_rfl) (by kernel_rfl) ?_
  refine WL.q (.bool true) (by kernel_rfl) rfl (by kernel_rfl) (by kernel_rfl) ?_
  refine WL.q (.pointer (some ⟨t, 0, none⟩)) (by kernel_rfl) rfl (by kernel_rfl) (by kernel_rfl) ?_
  refine WL.call (by kernel_rfl) rfl (by kernel_rfl) (by kernel_rfl) (lenA_spec G19 (TabA.mono ((l17.trans l18).trans l19) B16) (PH.le_refl _) (by decide)) (Ret.elim ?_)
  rintro w20 h20 _ l20 G20 rfl
  refine WL.q (.bool true) (by kernel_rfl) rfl (by kernel_rfl) (by kernel_rfl) ?_
  refine WL.q (.bool true) (by kernel_rfl) rfl (by kernel_rfl) (by kernel_rfl) ?_
  refine WL.q (.bool true) (by kernel_rfl) rfl (by kernel_rfl) (by kernel_rfl) ?_
  refine WL.q (.pointer (some ⟨t, 0, none⟩)) (by kernel_rfl) rfl (by kernel_rfl) (by kernel_rfl) ?_
  refine WL.call (by kernel_rfl) rfl (by kernel_rfl) (by kernel_rfl) (allA_spec G20 (TabA.mono (((l17.trans l18).trans l19).trans l20) B16) (PH.le_refl _) (by decide)) (Ret.elim ?_)
  rintro w21 h21 _ l21 G21 ⟨a21, fs21, rfl, r21, g21, q21⟩
  obtain rfl : fs21 = [] := by simpa using q21
  refine WL.q (.int .i64 0) (by kernel_rfl) rfl (by kernel_rfl) (by kernel_rfl) ?_
  refine WL.q (.bool true) (by kernel_rfl) rfl (by kernel_rfl) (by kernel_rfl) ?_
  refine WL.q (.bool true) (by kernel_rfl) rfl (by kernel_rfl) (by kernel_rfl) ?_
  refine WL.q (.bool true) (by kernel_rfl) rfl (by kernel_rfl) (by kernel_rfl) ?_
  refine WL.nil ?_
  refine EX.then_code ?_
  refine CW.ret ?_
  refine EX.ret1 (v := (.bool true)) rfl (by kernel_rfl) ?_
  exact Ret.mk ((((((((((((((l1.trans l2).trans l6).trans l7).trans l11).trans l12).trans l13).trans l14).trans l15).trans l16).trans l17).trans l18).trans l19).trans l20).trans l21) (G21.drop (Ly.le (lyTabA h16 t ([(7, false, []), (8, true, [])] : List RowT) ([] : List WD) 3) B16)) rfl
end Go.Proofs
