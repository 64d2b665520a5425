import Derived.Test.YtaepnhapggdceaaDoorMa
namespace Go.Proofs
open Go Go.Wk
theorem fok0 (t : ByteArray) (ht : t.size ≤ 100) : FactOk t [] := ⟨by omega, by simp, by simp⟩
theorem fok1 (t : ByteArray) (ht : t.size ≤ 100) {n : Int} (h0 : -9223372036854775808 ≤ n) (h1 : n ≤ 9223372036854775807) : FactOk t [Val.mk 1 n (ByteArray.mk #[])] :=
  ⟨by omega, by simp, fun v hv => by rw [List.mem_singleton] at hv; subst hv; exact ⟨by simp, ⟨h0, h1⟩, (by decide : (ByteArray.mk #[]).size ≤ 1000000)⟩⟩

theorem known_spec {K : Key} {w : World} {h M : PH} (G : Wld K w h M) (T : Tab Tryd.prog h) :
    Calls Tryd.prog 7 #[] w (Ret K h M fun _ v => v = .bool true) := by
  refine enter (l := []) Tryd.func7 rfl Tryd.ntmps7 (Nat.le_of_ble_eq_true rfl) ?_
  simp only [params]
  refine CW.seq ?_
  refine CW.region ?_
  refine WL.q (.bool false) (by kernel_rfl) rfl (by kernel_rfl) (by kernel_rfl) ?_
  refine WL.nil ?_
  refine EX.then_code ?_
  refine CW.seq ?_
  refine CW.region ?_
  refine WL.call (by kernel_rfl) rfl (by kernel_rfl) (by kernel_rfl) (newA G) (RetM.elim ?_)
  rintro w1 h1 M1 _ l1 G1 ⟨p1, rfl, A1⟩
  refine WL.q (.pointer (some ⟨p1, 0, none⟩)) (by kernel_rfl) rfl (by kernel_rfl) (by kernel_rfl) ?_
  refine WL.nil ?_
  refine EX.then_code ?_
  refine CW.seq ?_
  refine CW.seq ?_
  refine CW.region ?_
  refine WL.q (.pointer (some ⟨p1, 0, none⟩)) (by kernel_rfl) rfl (by kernel_rfl) (by kernel_rfl) ?_
  refine WL.q (.bool false) (by kernel_rfl) rfl (by kernel_rfl) (by kernel_rfl) ?_
  refine WL.nil ?_
  refine EX.then_code ?_
  refine CW.cond_f (by kernel_rfl) (by kernel_rfl) ?_
  refine CW.skip ?_
  refine EX.then_code ?_
  refine CW.seq ?_
  refine CW.region ?_
  refine WL.q (.pointer (some ⟨p1, 0, none⟩)) (by kernel_rfl) rfl (by kernel_rfl) (by kernel_rfl) ?_
  refine WL.call (by kernel_rfl) rfl (by kernel_rfl) (by kernel_rfl) (int_spec G1 1) (Ret.elim ?_)
  rintro w2 h2 _ l2 G2 rfl
  refine WL.ex (by kernel_rfl) rfl (by kernel_rfl) (q_newF (ob := (.cells #[(.int .i64 1), (.int .i64 1), (.string (ByteArray.mk #[]))] 29 (0, 0))) G2 (fun b_ => .slice (some ⟨b_, 0, none⟩) 1 1) (fun u_ => by kernel_rfl)) ?_
  rintro _ w3 ⟨b3, h3, rfl, l3, G3, hb3, L3⟩
  have r4 : RS h3 valE (some ⟨b3, 0, none⟩) [(Val.mk 1 1 (ByteArray.mk #[]))] := RS.blk hb3 (by kernel_rfl)
  refine WL.call (by kernel_rfl) rfl (by kernel_rfl) (by kernel_rfl) (assertA_new G3 (MemA.mono (l2.trans l3) A1) (T.mono ((l1.trans l2).trans l3)) (t := (ByteArray.mk #[112])) (a := (some ⟨b3, 0, none⟩)) (xs := ([(Val.mk 1 1 (ByteArray.mk #[]))])) (c := 1) (r4.mono (PH.le_refl _)) (fok1 _ (by decide) (by decide) (by decide)) (lookA_none (by simp)) (by decide) (by decide)) (RetM.elim ?_)
  rintro w5 h5 M5 _ l5 G5 ⟨rfl, A5⟩
  refine WL.q (.tuple #[(.int .i64 1), (.bool true), (.int .i64 0)]) (by kernel_rfl) rfl (by kernel_rfl) (by kernel_rfl) ?_
  refine WL.q (.int .i64 1) (by kernel_rfl) rfl (by kernel_rfl) (by kernel_rfl) ?_
  refine WL.q (.bool true) (by kernel_rfl) rfl (by kernel_rfl) (by kernel_rfl) ?_
  refine WL.q (.int .i64 0) (by kernel_rfl) rfl (by kernel_rfl) (by kernel_rfl) ?_
  refine WL.q (.int .i64 1) (by kernel_rfl) rfl (by kernel_rfl) (by kernel_rfl) ?_
  refine WL.q (.bool true) (by kernel_rfl) rfl (by kernel_rfl) (by kernel_rfl) ?_
  refine WL.q (.int .i64 0) (by kernel_rfl) rfl (by kernel_rfl) (by kernel_rfl) ?_
  refine WL.nil ?_
  refine EX.then_code ?_
  refine CW.seq ?_
  refine CW.region ?_
  refine WL.q (.pointer (some ⟨p1, 0, none⟩)) (by kernel_rfl) rfl (by kernel_rfl) (by kernel_rfl) ?_
  refine WL.call (by kernel_rfl) rfl (by kernel_rfl) (by kernel_rfl) (assertA_new G5 A5 (T.mono (((l1.trans l2).trans l3).trans l5)) (t := (ByteArray.mk #[113])) (a := none) (xs := ([] : List Val)) (c := 0) (RS.nil _ _ _) (fok0 _ (by decide)) (lookA_none (by intro d hd; simp at hd; subst hd; decide)) (by decide) (by decide)) (RetM.elim ?_)
  rintro w6 h6 M6 _ l6 G6 ⟨rfl, A6⟩
  refine WL.q (.tuple #[(.int .i64 2), (.bool true), (.int .i64 0)]) (by kernel_rfl) rfl (by kernel_rfl) (by kernel_rfl) ?_
  refine WL.q (.int .i64 2) (by kernel_rfl) rfl (by kernel_rfl) (by kernel_rfl) ?_
  refine WL.q (.bool true) (by kernel_rfl) rfl (by kernel_rfl) (by kernel_rfl) ?_
  refine WL.q (.int .i64 0) (by kernel_rfl) rfl (by kernel_rfl) (by kernel_rfl) ?_
  refine WL.q (.int .i64 2) (by kernel_rfl) rfl (by kernel_rfl) (by kernel_rfl) ?_
  refine WL.q (.bool true) (by kernel_rfl) rfl (by kernel_rfl) (by kernel_rfl) ?_
  refine WL.q (.int .i64 0) (by kernel_rfl) rfl (by kernel_rfl) (by kernel_rfl) ?_
  refine WL.nil ?_
  refine EX.then_code ?_
  refine CW.seq ?_
  refine CW.region ?_
  refine WL.q (.pointer (some ⟨p1, 0, none⟩)) (by kernel_rfl) rfl (by kernel_rfl) (by kernel_rfl) ?_
  refine WL.call (by kernel_rfl) rfl (by kernel_rfl) (by kernel_rfl) (int_spec G6 1) (Ret.elim ?_)
  rintro w7 h7 _ l7 G7 rfl
  refine WL.ex (by kernel_rfl) rfl (by kernel_rfl) (q_newF (ob := (.cells #[(.int .i64 1), (.int .i64 1), (.string (ByteArray.mk #[]))] 29 (0, 0))) G7 (fun b_ => .slice (some ⟨b_, 0, none⟩) 1 1) (fun u_ => by kernel_rfl)) ?_
  rintro _ w8 ⟨b8, h8, rfl, l8, G8, hb8, L8⟩
  have r9 : RS h8 valE (some ⟨b8, 0, none⟩) [(Val.mk 1 1 (ByteArray.mk #[]))] := RS.blk hb8 (by kernel_rfl)
  refine WL.call (by kernel_rfl) rfl (by kernel_rfl) (by kernel_rfl) (assertA_yes G8 (MemA.mono (l7.trans l8) A6) (T.mono ((((((l1.trans l2).trans l3).trans l5).trans l6).trans l7).trans l8)) (t := (ByteArray.mk #[112])) (a := (some ⟨b8, 0, none⟩)) (xs := ([(Val.mk 1 1 (ByteArray.mk #[]))])) (c := 1) (r9.mono (PH.le_refl _)) (fok1 _ (by decide) (by decide) (by decide)) (id := 1) (lookA_mem A6.ok.keys (by simp))) (Ret.elim ?_)
  rintro w10 h10 _ l10 G10 rfl
  refine WL.q (.tuple #[(.int .i64 1), (.bool false), (.int .i64 0)]) (by kernel_rfl) rfl (by kernel_rfl) (by kernel_rfl) ?_
  refine WL.q (.int .i64 1) (by kernel_rfl) rfl (by kernel_rfl) (by kernel_rfl) ?_
  refine WL.q (.bool false) (by kernel_rfl) rfl (by kernel_rfl) (by kernel_rfl) ?_
  refine WL.q (.int .i64 0) (by kernel_rfl) rfl (by kernel_rfl) (by kernel_rfl) ?_
  refine WL.q (.int .i64 1) (by kernel_rfl) rfl (by kernel_rfl) (by kernel_rfl) ?_
  refine WL.q (.bool false) (by kernel_rfl) rfl (by kernel_rfl) (by kernel_rfl) ?_
  refine WL.q (.int .i64 0) (by kernel_rfl) rfl (by kernel_rfl) (by kernel_rfl) ?_
  refine WL.nil ?_
  refine EX.then_code ?_
  refine CW.seq ?_
  refine CW.region ?_
  refine WL.q (.pointer (some ⟨p1, 0, none⟩)) (by kernel_rfl) rfl (by kernel_rfl) (by kernel_rfl) ?_
  refine WL.call (by kernel_rfl) rfl (by kernel_rfl) (by kernel_rfl) (retractA G10 (MemA.mono ((l7.trans l8).trans l10) A6) (T.mono (((((((l1.trans l2).trans l3).trans l5).trans l6).trans l7).trans l8).trans l10)) 1) (RetM.elim ?_)
  rintro w11 h11 M11 _ l11 G11 ⟨rfl, A11⟩
  have A12 : MemA h11 p1 ([((2 : Int), (ByteArray.mk #[113]), ([] : List Val))]) 3 M M11 := A11
  refine WL.know 40 (.bool true) (x := (.bool (((([] : List Dat) ++ [(1, (ByteArray.mk #[112]), [(Val.mk 1 1 (ByteArray.mk #[]))])]) ++ [(2, (ByteArray.mk #[113]), ([] : List Val))]).any fun d => d.1 == 1))) (by kernel_rfl) (rfl) ?_
  refine WL.q (.bool true) (by kernel_rfl) rfl (by kernel_rfl) (by kernel_rfl) ?_
  refine WL.nil ?_
  refine EX.then_code ?_
  refine CW.seq ?_
  refine CW.region ?_
  refine WL.q (.pointer (some ⟨p1, 0, none⟩)) (by kernel_rfl) rfl (by kernel_rfl) (by kernel_rfl) ?_
  refine WL.call (by kernel_rfl) rfl (by kernel_rfl) (by kernel_rfl) (getA G11 A12 (PH.le_refl _) 1) (Ret.elim ?_)
  rintro w13 h13 _ l13 G13 ⟨f13, fd13, rfl, hg13, hn13⟩
  refine WL.q (.tuple #[(.agg #[(.int .i64 ((f13).id)), (.string ((f13).t)), (.slice ((f13).a) ((f13).vals.length) ((f13).c))]), (.bool fd13)]) (by kernel_rfl) rfl (by kernel_rfl) (by kernel_rfl) ?_
  refine WL.q (.agg #[(.int .i64 ((f13).id)), (.string ((f13).t)), (.slice ((f13).a) ((f13).vals.length) ((f13).c))]) (by kernel_rfl) rfl (by kernel_rfl) (by kernel_rfl) ?_
  refine WL.q (.bool fd13) (by kernel_rfl) rfl (by kernel_rfl) (by kernel_rfl) ?_
  refine WL.know 45 (.bool false) (x := (.bool fd13)) (by kernel_rfl) (congrArg Value.bool (by cases hq : fd13 with | false => rfl | true => exact absurd (hg13 hq).2.1 (fun e_ => by have q_ := (hg13 hq).1; simp [dat] at q_; omega))) ?_
  refine WL.ex (by kernel_rfl) rfl (by kernel_rfl) (q_newB (ob := (.cells #[(.int .i64 0), (.string (ByteArray.mk #[])), (.slice none 0 0)] 55 (0, 0))) G13 (fun b_ => .pointer (some ⟨b_, 0, none⟩)) (fun u_ => by kernel_rfl)) ?_
  rintro _ w14 ⟨b14, M14, rfl, G14, B14, L14⟩
  refine WL.exu (by kernel_rfl) rfl (by kernel_rfl) (q_storeB (off := 0) (et := 55) (v := (.agg #[(.int .i64 ((f13).id)), (.string ((f13).t)), (.slice ((f13).a) ((f13).vals.length) ((f13).c))])) (vs := [(.int .i64 ((f13).id)), (.string ((f13).t)), (.slice ((f13).a) ((f13).vals.length) ((f13).c))]) #[(.int .i64 ((f13).id)), (.string ((f13).t)), (.slice ((f13).a) ((f13).vals.length) ((f13).c))] G14 B14 rfl (by kernel_rfl) (by kernel_rfl) (by kernel_rfl) (by kernel_rfl) (by simp [Value.oneCell']) (by simp) (by kernel_rfl)) ?_
  rintro w15 ⟨M15, G15, B15⟩
  obtain ⟨h16, l16, G16, hb16⟩ := B15.freeze G15
  refine WL.q (.bool false) (by kernel_rfl) rfl (by kernel_rfl) (by kernel_rfl) ?_
  refine WL.nil ?_
  refine EX.then_code ?_
  refine CW.seq ?_
  refine CW.region ?_
  refine WL.q (.int .i64 0) (by kernel_rfl) rfl (by kernel_rfl) (by kernel_rfl) ?_
  refine WL.q (.int .i64 0) (by kernel_rfl) rfl (by kernel_rfl) (by kernel_rfl) ?_
  refine WL.q (.int .i64 0) (by kernel_rfl) rfl (by kernel_rfl) (by kernel_rfl) ?_
  refine WL.q (.int .i64 0) (by kernel_rfl) rfl (by kernel_rfl) (by kernel_rfl) ?_
  refine WL.q (.int .i64 0) (by kernel_rfl) rfl (by kernel_rfl) (by kernel_rfl) ?_
  refine WL.q (.bool true) (by kernel_rfl) rfl (by kernel_rfl) (by kernel_rfl) ?_
  refine WL.q (.bool true) (by kernel_rfl) rfl (by kernel_rfl) (by kernel_rfl) ?_
  refine WL.q (.int .i64 1) (by kernel_rfl) rfl (by kernel_rfl) (by kernel_rfl) ?_
  refine WL.q (.bool true) (by kernel_rfl) rfl (by kernel_rfl) (by kernel_rfl) ?_
  refine WL.q (.bool true) (by kernel_rfl) rfl (by kernel_rfl) (by kernel_rfl) ?_
  refine WL.q (.bool true) (by kernel_rfl) rfl (by kernel_rfl) (by kernel_rfl) ?_
  refine WL.q (.bool true) (by kernel_rfl) rfl (by kernel_rfl) (by kernel_rfl) ?_
  refine WL.q (.bool true) (by kernel_rfl) rfl (by kernel_rfl) (by kernel_rfl) ?_
  refine WL.q (.bool true) (by kernel_rfl) rfl (by kernel_rfl) (by kernel_rfl) ?_
  refine WL.q (.int .i64 2) (by kernel_rfl) rfl (by kernel_rfl) (by kernel_rfl) ?_
  refine WL.q (.bool true) (by kernel_rfl) rfl (by kernel_rfl) (by kernel_rfl) ?_
  refine WL.q (.bool true) (by kernel_rfl) rfl (by kernel_rfl) (by kernel_rfl) ?_
  refine WL.q (.bool true) (by kernel_rfl) rfl (by kernel_rfl) (by kernel_rfl) ?_
  refine WL.q (.bool true) (by kernel_rfl) rfl (by kernel_rfl) (by kernel_rfl) ?_
  refine WL.q (.bool true) (by kernel_rfl) rfl (by kernel_rfl) (by kernel_rfl) ?_
  refine WL.q (.bool true) (by kernel_rfl) rfl (by kernel_rfl) (by kernel_rfl) ?_
  refine WL.q (.int .i64 1) (by kernel_rfl) rfl (by kernel_rfl) (by kernel_rfl) ?_
  refine WL.q (.bool true) (by kernel_rfl) rfl (by kernel_rfl) (by kernel_rfl) ?_
  refine WL.q (.bool true) (by kernel_rfl) rfl (by kernel_rfl) (by kernel_rfl) ?_
  refine WL.q (.bool true) (by kernel_rfl) rfl (by kernel_rfl) (by kernel_rfl) ?_
  refine WL.q (.bool false) (by kernel_rfl) rfl (by kernel_rfl) (by kernel_rfl) ?_
  refine WL.q (.bool true) (by kernel_rfl) rfl (by kernel_rfl) (by kernel_rfl) ?_
  refine WL.q (.bool true) (by kernel_rfl) rfl (by kernel_rfl) (by kernel_rfl) ?_
  refine WL.q (.bool true) (by kernel_rfl) rfl (by kernel_rfl) (by kernel_rfl) ?_
  refine WL.q (.bool true) (by kernel_rfl) rfl (by kernel_rfl) (by kernel_rfl) ?_
  refine WL.q (.bool true) (by kernel_rfl) rfl (by kernel_rfl) (by kernel_rfl) ?_
  refine WL.q (.bool true) (by kernel_rfl) rfl (by kernel_rfl) (by kernel_rfl) ?_
  refine WL.q (.bool false) (by kernel_rfl) rfl (by kernel_rfl) (by kernel_rfl) ?_
  refine WL.q (.bool true) (by kernel_rfl) rfl (by kernel_rfl) (by kernel_rfl) ?_
  refine WL.q (.bool true) (by kernel_rfl) rfl (by kernel_rfl) (by kernel_rfl) ?_
  refine WL.q (.bool true) (by kernel_rfl) rfl (by kernel_rfl) (by kernel_rfl) ?_
  refine WL.q (.pointer (some ⟨p1, 0, none⟩)) (by kernel_rfl) rfl (by kernel_rfl) (by kernel_rfl) ?_
  refine WL.call (by kernel_rfl) rfl (by kernel_rfl) (by kernel_rfl) (lenA G16 (MemA.mono (l13.trans l16) A12) (PH.le_refl _)) (Ret.elim ?_)
  rintro w17 h17 _ l17 G17 rfl
  refine WL.know 83 (.int .i64 1) (x := (.int .i64 ((([((2 : Int), (ByteArray.mk #[113]), ([] : List Val))]).length : Nat) : Int))) (by kernel_rfl) (rfl) ?_
  refine WL.q (.bool true) (by kernel_rfl) rfl (by kernel_rfl) (by kernel_rfl) ?_
  refine WL.q (.bool true) (by kernel_rfl) rfl (by kernel_rfl) (by kernel_rfl) ?_
  refine WL.q (.bool true) (by kernel_rfl) rfl (by kernel_rfl) (by kernel_rfl) ?_
  refine WL.q (.pointer (some ⟨p1, 0, none⟩)) (by kernel_rfl) rfl (by kernel_rfl) (by kernel_rfl) ?_
  refine WL.call (by kernel_rfl) rfl (by kernel_rfl) (by kernel_rfl) (nextA G17 (MemA.mono ((l13.trans l16).trans l17) A12) (PH.le_refl _)) (Ret.elim ?_)
  rintro w18 h18 _ l18 G18 rfl
  refine WL.q (.bool true) (by kernel_rfl) rfl (by kernel_rfl) (by kernel_rfl) ?_
  refine WL.q (.bool true) (by kernel_rfl) rfl (by kernel_rfl) (by kernel_rfl) ?_
  refine WL.q (.bool true) (by kernel_rfl) rfl (by kernel_rfl) (by kernel_rfl) ?_
  refine WL.q (.pointer (some ⟨p1, 0, none⟩)) (by kernel_rfl) rfl (by kernel_rfl) (by kernel_rfl) ?_
  refine WL.call (by kernel_rfl) rfl (by kernel_rfl) (by kernel_rfl) (ofA G18 (MemA.mono (((l13.trans l16).trans l17).trans l18) A12) (PH.le_refl _) (ByteArray.mk #[113])) (Ret.elim ?_)
  rintro w19 h19 _ l19 G19 ⟨a19, fs19, rfl, r19, gg19, hd19⟩
  have hdl19 := congrArg List.length hd19
  rw [List.length_map] at hdl19
  refine WL.q (.int .i64 (fs19.length : Int)) (by kernel_rfl) rfl (by kernel_rfl) (by kernel_rfl) ?_
  refine WL.know 94 (.int .i64 1) (x := (.int .i64 (fs19.length : Int))) (by kernel_rfl) (congrArg (Value.int .i64) (by rw [hdl19]; simp [sameS_iff])) ?_
  refine WL.q (.bool true) (by kernel_rfl) rfl (by kernel_rfl) (by kernel_rfl) ?_
  refine WL.q (.bool true) (by kernel_rfl) rfl (by kernel_rfl) (by kernel_rfl) ?_
  refine WL.q (.bool true) (by kernel_rfl) rfl (by kernel_rfl) (by kernel_rfl) ?_
  refine WL.q (.pointer (some ⟨p1, 0, none⟩)) (by kernel_rfl) rfl (by kernel_rfl) (by kernel_rfl) ?_
  refine WL.call (by kernel_rfl) rfl (by kernel_rfl) (by kernel_rfl) (allA G19 (MemA.mono ((((l13.trans l16).trans l17).trans l18).trans l19) A12) (PH.le_refl _)) (Ret.elim ?_)
  rintro w20 h20 _ l20 G20 ⟨a20, fs20, rfl, r20, gg20, hd20⟩
  have hdl20 := congrArg List.length hd20
  rw [List.length_map] at hdl20
  refine WL.q (.int .i64 (fs20.length : Int)) (by kernel_rfl) rfl (by kernel_rfl) (by kernel_rfl) ?_
  refine WL.know 100 (.int .i64 1) (x := (.int .i64 (fs20.length : Int))) (by kernel_rfl) (congrArg (Value.int .i64) (by rw [hdl20]; rfl)) ?_
  refine WL.q (.bool true) (by kernel_rfl) rfl (by kernel_rfl) (by kernel_rfl) ?_
  refine WL.q (.bool true) (by kernel_rfl) rfl (by kernel_rfl) (by kernel_rfl) ?_
  refine WL.q (.bool true) (by kernel_rfl) rfl (by kernel_rfl) (by kernel_rfl) ?_
  refine WL.nil ?_
  refine EX.then_code ?_
  refine CW.ret ?_
  refine EX.ret1 (v := (.bool true)) rfl (by kernel_rfl) ?_
  exact Ret.mk ((((((((((((((l1.trans l2).trans l3).trans l5).trans l6).trans l7).trans l8).trans l10).trans l11).trans l13).trans l16).trans l17).trans l18).trans l19).trans l20) (G20.drop (Ly.le (Ly.memA h11 p1 ([((2 : Int), (ByteArray.mk #[113]), ([] : List Val))]) 3) A12)) rfl
end Go.Proofs
