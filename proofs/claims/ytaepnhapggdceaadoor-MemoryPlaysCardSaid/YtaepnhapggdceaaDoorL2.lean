import Derived.Test.YtaepnhapggdceaaDoorL1
namespace Go.Proofs
open Go Go.Wk
theorem again_spec {K : Key} {w : World} {h M : PH} (G : Wld K w h M) (T : Tab Tryd.prog h) {n : Nat} (hn : n ≤ 255) :
    Calls Tryd.prog 5 #[.int .u8 (n : Nat)] w (Ret K h M fun _ v => v = .bool true) := by
  refine enter (l := [(.int .u8 (n : Int))]) Tryd.func5 rfl Tryd.ntmps5 (Nat.le_of_ble_eq_true rfl) ?_
  simp only [params]
  refine CW.seq ?_
  refine CW.region ?_
  refine WL.q (.bool false) (by kernel_rfl) rfl (by kernel_rfl) (by kernel_rfl) ?_
  refine WL.nil ?_
  refine EX.then_code ?_
  refine CW.seq ?_
  refine CW.seq ?_
  refine CW.region ?_
  refine WL.call (by kernel_rfl) rfl (by kernel_rfl) (by kernel_rfl) (known_spec G (T.mono (PH.le_refl _))) (Ret.elim ?_)
  rintro w1 h1 _ l1 G1 rfl
  refine WL.q (.bool false) (by kernel_rfl) rfl (by kernel_rfl) (by kernel_rfl) ?_
  refine WL.nil ?_
  refine EX.then_code ?_
  refine CW.cond_f (by kernel_rfl) (by kernel_rfl) ?_
  refine CW.skip ?_
  refine EX.then_code ?_
  refine CW.seq ?_
  refine CW.region ?_
  refine WL.call (by kernel_rfl) rfl (by kernel_rfl) (by kernel_rfl) (newA G1) (RetM.elim ?_)
  rintro w2 h2 M2 _ l2 G2 ⟨p2, rfl, A2⟩
  refine WL.q (.pointer (some ⟨p2, 0, none⟩)) (by kernel_rfl) rfl (by kernel_rfl) (by kernel_rfl) ?_
  refine WL.nil ?_
  refine EX.then_code ?_
  refine CW.seq ?_
  refine CW.seq ?_
  refine CW.region ?_
  refine WL.q (.int .i64 1) (by kernel_rfl) rfl (by kernel_rfl) (by kernel_rfl) ?_
  refine WL.nil ?_
  refine EX.then_code ?_
  refine CW.block ?_
  refine CW.loop (β := Nat) (fun x_ => [(0, (.int .u8 (n : Int))), (3, (.pointer (some ⟨p2, 0, none⟩))), (4, (.int .i64 (x_ : Int)))]) (fun x_ w_ => ∃ h_ M0_, (PH.le h2 h_) ∧ (Wld K w_ h_ M0_) ∧ (MemA h_ p2 ([] : List Dat) (x_ : Int) M M0_) ∧ (1 ≤ x_) ∧ (x_ ≤ 100)) (fun x_ => 100 - x_) 1 ⟨(by kernel_rfl), (by kernel_rfl), (lk_int (x := 1) (by kernel_rfl) (by first | omega | (dsimp only; done) | (dsimp only; omega))), trivial⟩ ⟨h2, M2, (PH.le_refl _), G2, A2, (by first | omega | assumption | (dsimp only [List.length_nil, List.length_append, List.length_cons]; omega)), (by first | omega | assumption | (dsimp only [List.length_nil, List.length_append, List.length_cons]; omega))⟩ ?_
  rintro i w3 ⟨h3, M0_3, l3, G3, o_mem3, hi, hi2⟩
  try dsimp only at *
  refine CW.seq ?_
  refine CW.seq ?_
  refine CW.region ?_
  refine WL.q (.int .i64 (i : Int)) (by kernel_rfl) rfl (by kernel_rfl) (by kernel_rfl) ?_
  refine WL.q (.int .u8 (n : Int)) (by kernel_rfl) rfl (by kernel_rfl) (by kernel_rfl) ?_
  refine WL.q (.int .u8 ((n % 100 : Nat) : Int)) (by kernel_rfl) rfl (by kernel_rfl) (q_rem (n := n) (m := 100) rfl (by kernel_rfl) (by kernel_rfl) (by omega)) ?_
  refine WL.q (.int .i64 ((n % 100 : Nat) : Int)) (by kernel_rfl) rfl (by kernel_rfl) (q_int (by kernel_rfl) (wrap_i64 (by omega) (by omega))) ?_
  refine WL.q (.bool (decide ((i : Int) ≤ ((n % 100 : Nat) : Int)))) (by kernel_rfl) rfl (by kernel_rfl) (by kernel_rfl) ?_
  refine WL.nil ?_
  refine EX.then_code ?_
  refine CW.cond (decide ((i : Int) ≤ ((n % 100 : Nat) : Int))) (by kernel_rfl) (by kernel_rfl) (fun c4 => ?_) (fun c4 => ?_)
  ·
    skip
    have d5 := of_decide_eq_true c4
    refine CW.skip ?_
    refine EX.then_code ?_
    refine CW.seq ?_
    refine CW.block ?_
    refine CW.seq ?_
    refine CW.region ?_
    refine WL.q (.pointer (some ⟨p2, 0, none⟩)) (by kernel_rfl) rfl (by kernel_rfl) (by kernel_rfl) ?_
    refine WL.call (by kernel_rfl) rfl (by kernel_rfl) (by kernel_rfl) (int_spec G3 1) (Ret.elim ?_)
    rintro w6 h6 _ l6 G6 rfl
    refine WL.ex (by kernel_rfl) rfl (by kernel_rfl) (q_newF (ob := (.cells #[(.int .i64 1), (.int .i64 1), (.string (ByteArray.mk #[]))] 29 (0, 0))) G6 (fun b_ => .slice (some ⟨b_, 0, none⟩) 1 1) (fun u_ => by kernel_rfl)) ?_
    rintro _ w7 ⟨b7, h7, rfl, l7, G7, hb7, L7⟩
    have r8 : RS h7 valE (some ⟨b7, 0, none⟩) [(Val.mk 1 1 (ByteArray.mk #[]))] := RS.blk hb7 (by kernel_rfl)
    refine WL.call (by kernel_rfl) rfl (by kernel_rfl) (by kernel_rfl) (assertA_new G7 (MemA.mono (l6.trans l7) o_mem3) (T.mono ((((l1.trans l2).trans l3).trans l6).trans l7)) (t := (ByteArray.mk #[116])) (a := (some ⟨b7, 0, none⟩)) (xs := ([(Val.mk 1 1 (ByteArray.mk #[]))])) (c := 1) (r8.mono (PH.le_refl _)) (fok1 _ (by decide) (by decide) (by decide)) (lookA_none (by simp)) (by simp) (by omega)) (RetM.elim ?_)
    rintro w9 h9 M9 _ l9 G9 ⟨rfl, A9⟩
    refine WL.q (.tuple #[(.int .i64 (i : Int)), (.bool true), (.int .i64 0)]) (by kernel_rfl) rfl (by kernel_rfl) (by kernel_rfl) ?_
    refine WL.q (.int .i64 (i : Int)) (by kernel_rfl) rfl (by kernel_rfl) (by kernel_rfl) ?_
    refine WL.q (.bool true) (by kernel_rfl) rfl (by kernel_rfl) (by kernel_rfl) ?_
    refine WL.q (.int .i64 0) (by kernel_rfl) rfl (by kernel_rfl) (by kernel_rfl) ?_
    refine WL.q (.int .i64 (i : Int)) (by kernel_rfl) rfl (by kernel_rfl) (by kernel_rfl) ?_
    refine WL.q (.bool true) (by kernel_rfl) rfl (by kernel_rfl) (by kernel_rfl) ?_
    refine WL.q (.int .i64 0) (by kernel_rfl) rfl (by kernel_rfl) (by kernel_rfl) ?_
    refine WL.nil ?_
    refine EX.then_code ?_
    refine CW.seq ?_
    refine CW.region ?_
    refine WL.q (.int .i64 (i : Int)) (by kernel_rfl) rfl (by kernel_rfl) (by kernel_rfl) ?_
    refine WL.q (.int .i64 (i : Int)) (by kernel_rfl) rfl (by kernel_rfl) (by kernel_rfl) ?_
    refine WL.q (.bool false) (by kernel_rfl) rfl (by kernel_rfl) (q_bool (x := (((i : Int) : Int) != (i : Int))) (by kernel_rfl) (bne_self_eq_false _)) ?_
    refine WL.q (.bool false) (by kernel_rfl) rfl (by kernel_rfl) (by kernel_rfl) ?_
    refine WL.q (.bool true) (by kernel_rfl) rfl (by kernel_rfl) (by kernel_rfl) ?_
    refine WL.q (.bool false) (by kernel_rfl) rfl (by kernel_rfl) (by kernel_rfl) ?_
    refine WL.q (.bool false) (by kernel_rfl) rfl (by kernel_rfl) (by kernel_rfl) ?_
    refine WL.q (.bool false) (by kernel_rfl) rfl (by kernel_rfl) (by kernel_rfl) ?_
    refine WL.q (.int .i64 0) (by kernel_rfl) rfl (by kernel_rfl) (by kernel_rfl) ?_
    refine WL.q (.bool false) (by kernel_rfl) rfl (by kernel_rfl) (by kernel_rfl) ?_
    refine WL.q (.bool false) (by kernel_rfl) rfl (by kernel_rfl) (by kernel_rfl) ?_
    refine WL.q (.bool false) (by kernel_rfl) rfl (by kernel_rfl) (by kernel_rfl) ?_
    refine WL.q (.pointer (some ⟨p2, 0, none⟩)) (by kernel_rfl) rfl (by kernel_rfl) (by kernel_rfl) ?_
    refine WL.call (by kernel_rfl) rfl (by kernel_rfl) (by kernel_rfl) (nextA G9 A9 (PH.le_refl _)) (Ret.elim ?_)
    rintro w10 h10 _ l10 G10 rfl
    refine WL.q (.int .i64 (i : Int)) (by kernel_rfl) rfl (by kernel_rfl) (by kernel_rfl) ?_
    refine WL.q (.int .i64 ((i + 1 : Nat) : Int)) (by kernel_rfl) rfl (by kernel_rfl) (q_int (x := IntKind.i64.wrap ((i : Int) + 1)) (by kernel_rfl) (wrap_to (by omega) (by omega) (by omega))) ?_
    refine WL.q (.bool ((((i : Int) + 1) : Int) != ((i + 1 : Nat) : Int))) (by kernel_rfl) rfl (by kernel_rfl) (by kernel_rfl) ?_
    refine WL.know 42 (.bool false) (x := (.bool ((((i : Int) + 1) : Int) != ((i + 1 : Nat) : Int)))) (by kernel_rfl) (congrArg Value.bool (bne_eq_false_iff_eq.2 (by omega))) ?_
    refine WL.q (.bool false) (by kernel_rfl) rfl (by kernel_rfl) (by kernel_rfl) ?_
    refine WL.q (.bool false) (by kernel_rfl) rfl (by kernel_rfl) (by kernel_rfl) ?_
    refine WL.q (.pointer (some ⟨p2, 0, none⟩)) (by kernel_rfl) rfl (by kernel_rfl) (by kernel_rfl) ?_
    refine WL.q (.int .i64 (i : Int)) (by kernel_rfl) rfl (by kernel_rfl) (by kernel_rfl) ?_
    refine WL.call (by kernel_rfl) rfl (by kernel_rfl) (by kernel_rfl) (retractA G10 (MemA.mono l10 A9) (T.mono ((((((l1.trans l2).trans l3).trans l6).trans l7).trans l9).trans l10)) (i : Int)) (RetM.elim ?_)
    rintro w11 h11 M11 _ l11 G11 ⟨rfl, A11⟩
    have A12 : MemA h11 p2 ([] : List Dat) ((i : Int) + 1) M M11 := by have q_ := A11; simpa using q_
    refine WL.know 47 (.bool true) (x := (.bool ((([] : List Dat) ++ [((i : Int), (ByteArray.mk #[116]), [(Val.mk 1 1 (ByteArray.mk #[]))])]).any fun d => d.1 == (i : Int)))) (by kernel_rfl) (congrArg Value.bool (by simp)) ?_
    refine WL.q (.bool false) (by kernel_rfl) rfl (by kernel_rfl) (by kernel_rfl) ?_
    refine WL.q (.bool false) (by kernel_rfl) rfl (by kernel_rfl) (by kernel_rfl) ?_
    refine WL.q (.bool false) (by kernel_rfl) rfl (by kernel_rfl) (by kernel_rfl) ?_
    refine WL.q (.pointer (some ⟨p2, 0, none⟩)) (by kernel_rfl) rfl (by kernel_rfl) (by kernel_rfl) ?_
    refine WL.q (.int .i64 (i : Int)) (by kernel_rfl) rfl (by kernel_rfl) (by kernel_rfl) ?_
    refine WL.call (by kernel_rfl) rfl (by kernel_rfl) (by kernel_rfl) (retractA G11 A12 (T.mono (((((((l1.trans l2).trans l3).trans l6).trans l7).trans l9).trans l10).trans l11)) (i : Int)) (RetM.elim ?_)
    rintro w13 h13 M13 _ l13 G13 ⟨rfl, A13⟩
    have A14 : MemA h13 p2 ([] : List Dat) ((i : Int) + 1) M M13 := by have q_ := A13; simpa using q_
    refine WL.know 53 (.bool false) (x := (.bool (([] : List Dat).any fun d => d.1 == (i : Int)))) (by kernel_rfl) (congrArg Value.bool (by simp)) ?_
    refine WL.q (.bool false) (by kernel_rfl) rfl (by kernel_rfl) (by kernel_rfl) ?_
    refine WL.nil ?_
    refine EX.then_code ?_
    refine CW.cond_f (by kernel_rfl) (by kernel_rfl) ?_
    refine CW.skip ?_
    refine EX.in_block ?_
    refine EX.then_code ?_
    refine CW.region ?_
    refine WL.q (.int .i64 (i : Int)) (by kernel_rfl) rfl (by kernel_rfl) (by kernel_rfl) ?_
    refine WL.q (.int .i64 ((i + 1 : Nat) : Int)) (by kernel_rfl) rfl (by kernel_rfl) (q_int (x := IntKind.i64.wrap ((i : Int) + 1)) (by kernel_rfl) (wrap_to (by omega) (by omega) (by omega))) ?_
    refine WL.q (.int .i64 ((i + 1 : Nat) : Int)) (by kernel_rfl) rfl (by kernel_rfl) (by kernel_rfl) ?_
    refine WL.nil ?_
    have A15 : MemA h13 p2 ([] : List Dat) ((i + 1 : Nat) : Int) M M13 := A14
    exact EX.then_loop (i + 1) ⟨(by kernel_rfl), (by kernel_rfl), (lk_int (x := ((i + 1 : Nat) : Int)) (by kernel_rfl) (by first | omega | (dsimp only; done) | (dsimp only; omega))), trivial⟩ ⟨h13, M13, ((((((l3.trans l6).trans l7).trans l9).trans l10).trans l11).trans l13), G13, A15, (by first | omega | assumption | (dsimp only [List.length_nil, List.length_append, List.length_cons]; omega)), (by first | omega | assumption | (dsimp only [List.length_nil, List.length_append, List.length_cons]; omega))⟩ (by first | omega | (dsimp only; omega))
  ·
    skip
    have d16 := of_decide_eq_false c4
    refine CW.exit ?_
    refine EX.exit_then ?_
    refine EX.exit_then ?_
    refine EX.exit_here ?_
    refine EX.then_code ?_
    refine CW.seq ?_
    refine CW.region ?_
    refine WL.q (.pointer (some ⟨p2, 0, none⟩)) (by kernel_rfl) rfl (by kernel_rfl) (by kernel_rfl) ?_
    refine WL.call (by kernel_rfl) rfl (by kernel_rfl) (by kernel_rfl) (lenA G3 o_mem3 (PH.le_refl _)) (Ret.elim ?_)
    rintro w17 h17 _ l17 G17 rfl
    refine WL.q (.bool ((((([] : List Dat).length : Nat) : Int) : Int) == 0)) (by kernel_rfl) rfl (by kernel_rfl) (by kernel_rfl) ?_
    refine WL.q (.bool ((((([] : List Dat).length : Nat) : Int) : Int) == 0)) (by kernel_rfl) rfl (by kernel_rfl) (by kernel_rfl) ?_
    refine WL.nil ?_
    refine EX.then_code ?_
    refine CW.ret ?_
    refine EX.ret1 (v := (.bool ((((([] : List Dat).length : Nat) : Int) : Int) == 0))) rfl (by kernel_rfl) ?_
    exact Ret.mk (((l1.trans l2).trans l3).trans l17) (G17.drop (Ly.le (Ly.memA h3 p2 ([] : List Dat) (i : Int)) o_mem3)) rfl
end Go.Proofs
