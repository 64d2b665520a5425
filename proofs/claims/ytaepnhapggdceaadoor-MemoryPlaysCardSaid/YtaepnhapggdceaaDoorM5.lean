import Derived.Test.YtaepnhapggdceaaDoorM4
namespace Go.Proofs
open Go Go.Wk
theorem hash_full {K : Key} {w : World} {h M : PH} (G : Wld K w h M) {B : Nat} (F : Full B h M) (T : Tab Tryd.prog h) {a : Option Addr} {xs : List Val} {c : Nat} (Hx : RS h valE a xs) (hb : xs.length ≤ 110) (hok : ∀ v ∈ xs, ValOk v) :
    Calls Tryd.prog 31 #[.slice a xs.length c] w (Ret K h M fun _ v => v = .string (hashF xs)) := by
  refine enter (l := [(.slice a xs.length c)]) Tryd.func31 rfl Tryd.ntmps31 (Nat.le_of_ble_eq_true rfl) ?_
  simp only [params]
  refine CW.seq ?_
  refine CW.region ?_
  refine WL.q (.string (ByteArray.mk #[])) (by kernel_rfl) rfl (by kernel_rfl) (by kernel_rfl) ?_
  refine WL.nil ?_
  refine EX.then_code ?_
  refine CW.seq ?_
  refine CW.region ?_
  refine WL.ex (by kernel_rfl) rfl (by kernel_rfl) (q_newB (ob := (.cells #[(.pointer none), (.slice none 0 0)] 77 (0, 0))) G (fun b_ => .pointer (some ⟨b_, 0, none⟩)) (fun u_ => by kernel_rfl)) ?_
  rintro _ w1 ⟨b1, M1, rfl, G1, B1, L1⟩
  refine WL.nil ?_
  refine EX.then_code ?_
  refine CW.seq ?_
  refine CW.seq ?_
  refine CW.region ?_
  refine WL.q (.slice a xs.length c) (by kernel_rfl) rfl (by kernel_rfl) (by kernel_rfl) ?_
  refine WL.q (.int .i64 (xs.length : Int)) (by kernel_rfl) rfl (by kernel_rfl) (by kernel_rfl) ?_
  refine WL.q (.int .i64 0) (by kernel_rfl) rfl (by kernel_rfl) (by kernel_rfl) ?_
  refine WL.nil ?_
  refine EX.then_code ?_
  refine CW.block ?_
  have A0 := BldL.new (e := 5) B1
  refine CW.loop (β := Nat) (fun x_ => [(2, (.string (ByteArray.mk #[]))), (3, (.pointer (some ⟨b1, 0, none⟩))), (6, (.slice a xs.length c)), (7, (.int .i64 (xs.length : Int))), (8, (.int .i64 (x_ : Int)))]) (fun x_ w_ => ∃ h_ M0_, (PH.le h h_) ∧ (Wld K w_ h_ M0_) ∧ (BldL 77 5 b1 (hashL (xs.take x_)) M M0_) ∧ (x_ ≤ xs.length)) (fun x_ => xs.length - x_) 0 ⟨(by kernel_rfl), (by kernel_rfl), (by kernel_rfl), (by kernel_rfl), (lk_int (x := 0) (by kernel_rfl) (by first | omega | (dsimp only; done) | (dsimp only; omega))), trivial⟩ ⟨h, M1, (PH.le_refl _), G1, A0, (by first | omega | assumption | (dsimp only [List.length_nil, List.length_append, List.length_cons]; omega))⟩ ?_
  rintro k w2 ⟨h2, M0_2, l2, G2, o_bld2, hk⟩
  try dsimp only at *
  refine CW.seq ?_
  refine CW.region ?_
  refine WL.q (.bool (decide ((k : Int) < (xs.length : Int)))) (by kernel_rfl) rfl (by kernel_rfl) (by kernel_rfl) ?_
  refine WL.nil ?_
  refine EX.then_code ?_
  refine CW.seq ?_
  refine CW.cond (decide ((k : Int) < (xs.length : Int))) (by kernel_rfl) (by kernel_rfl) (fun c3 => ?_) (fun c3 => ?_)
  ·
    skip
    have d4 := of_decide_eq_true c3
    refine CW.skip ?_
    refine EX.then_code ?_
    refine CW.seq ?_
    refine CW.block ?_
    refine CW.seq ?_
    refine CW.region ?_
    have hv := hok _ (getD_mem (d := valE.dflt) (show k < xs.length by omega))
    obtain ⟨⟨hv1, hv2⟩, ⟨hv3, hv4⟩, hv5⟩ := hv
    have hz1 := itoaB_size hv1 hv2
    have hz2 := itoaB_size hv3 hv4
    have hz3 := itoaB_size (n := ((xs.getD k valE.dflt).s.size : Int)) (by omega) (by omega)
    have hz4 := itemF_size (hok _ (getD_mem (d := valE.dflt) (show k < xs.length by omega)))
    have hz5 := hashL_len (l := xs.take k) (fun v hv => hok v (List.mem_of_mem_take hv))
    rw [List.length_take] at hz5
    have hz6 : (hashL (xs.take k)).length ≤ 110 * 1000100 := Nat.le_trans hz5 (Nat.mul_le_mul_right _ (by omega))
    refine WL.q (eptr a (k * valE.sz)) (by kernel_rfl) rfl (by kernel_rfl) (q_indexAddr (i := k) (E := valE) (xs := xs) (e := 29) (c := c) (k := .i64) (m := xs.length) rfl rfl (by kernel_rfl) (by kernel_rfl) (by kernel_rfl) (Hx.mono (l2.trans G2.imm)) (by omega)) ?_
    refine WL.q (.agg #[(.int .i64 (((xs.getD k valE.dflt)).k)), (.int .i64 (((xs.getD k valE.dflt)).i)), (.string (((xs.getD k valE.dflt)).s))]) (by kernel_rfl) rfl (by kernel_rfl) (q_val (q_loadAgg_e (i := k) (E := valE) rfl (by kernel_rfl) (by kernel_rfl) (Hx.mono (l2.trans G2.imm)) (by omega)) (by kernel_rfl)) ?_
    refine WL.ex (by kernel_rfl) rfl (by kernel_rfl) (q_newB (ob := (.cells #[(.int .i64 0), (.int .i64 0), (.string (ByteArray.mk #[]))] 29 (0, 0))) G2 (fun b_ => .pointer (some ⟨b_, 0, none⟩)) (fun u_ => by kernel_rfl)) ?_
    rintro _ w5 ⟨b5, M5, rfl, G5, B5, L5⟩
    refine WL.exu (by kernel_rfl) rfl (by kernel_rfl) (q_storeB (off := 0) (et := 29) (v := (.agg #[(.int .i64 (((xs.getD k valE.dflt)).k)), (.int .i64 (((xs.getD k valE.dflt)).i)), (.string (((xs.getD k valE.dflt)).s))])) (vs := [(.int .i64 (((xs.getD k valE.dflt)).k)), (.int .i64 (((xs.getD k valE.dflt)).i)), (.string (((xs.getD k valE.dflt)).s))]) #[(.int .i64 (((xs.getD k valE.dflt)).k)), (.int .i64 (((xs.getD k valE.dflt)).i)), (.string (((xs.getD k valE.dflt)).s))] G5 B5 rfl (by kernel_rfl) (by kernel_rfl) (by kernel_rfl) (by kernel_rfl) (by simp [Value.oneCell']) (by simp) (by kernel_rfl)) ?_
    rintro w6 ⟨M6, G6, B6⟩
    obtain ⟨h7, l7, G7, hb7⟩ := B6.freeze G6
    refine WL.nil ?_
    refine EX.then_code ?_
    refine CW.draw (by kernel_rfl) [(1, fun w_ => PH.all w_ b5 = some (.cells #[(.int .i64 (((xs.getD k valE.dflt)).k)), (.int .i64 (((xs.getD k valE.dflt)).i)), (.string (((xs.getD k valE.dflt)).s))] 29 (0, 0))), (5, fun w_ => PH.all w_ b5 = some (.cells #[(.int .i64 (((xs.getD k valE.dflt)).k)), (.int .i64 (((xs.getD k valE.dflt)).i)), (.string (((xs.getD k valE.dflt)).s))] 29 (0, 0))), (10, fun w_ => PH.all w_ b5 = some (.cells #[(.int .i64 (((xs.getD k valE.dflt)).k)), (.int .i64 (((xs.getD k valE.dflt)).i)), (.string (((xs.getD k valE.dflt)).s))] 29 (0, 0))), (16, fun w_ => PH.all w_ b5 = some (.cells #[(.int .i64 (((xs.getD k valE.dflt)).k)), (.int .i64 (((xs.getD k valE.dflt)).i)), (.string (((xs.getD k valE.dflt)).s))] 29 (0, 0)))] ?_
    refine DW.take (T := fun _ => True) 0 (.pointer (some ⟨b5, 0, none⟩)) rfl (by kernel_rfl) rfl (by kernel_rfl) (.inl fun _ => trivial) (by kernel_rfl) (Deaf.block (Deaf.thens (Deaf.thens (Deaf.block (Deaf.thens (Deaf.body RetM.not_panicked)))))) (fun w_ _ => (by kernel_rfl)) trivial ?_
    refine DW.take (T := fun w_ => PH.all w_ b5 = some (.cells #[(.int .i64 (((xs.getD k valE.dflt)).k)), (.int .i64 (((xs.getD k valE.dflt)).i)), (.string (((xs.getD k valE.dflt)).s))] 29 (0, 0))) 1 (.int .i64 (((xs.getD k valE.dflt)).k)) rfl (by kernel_rfl) rfl (by kernel_rfl) (.inr (by simp only [List.mem_cons, true_or, or_true])) (by kernel_rfl) (Deaf.block (Deaf.thens (Deaf.thens (Deaf.block (Deaf.thens (Deaf.body RetM.not_panicked)))))) (fun w_ T_ => (q_load (off := 0) rfl (by kernel_rfl) (by kernel_rfl) T_ (by kernel_rfl))) ((G7.drew).imm _ _ ((PH.le_refl _) _ _ hb7)) ?_
    refine DW.take (T := fun _ => True) 4 (.pointer (some ⟨b5, 1, none⟩)) rfl (by kernel_rfl) rfl (by kernel_rfl) (.inl fun _ => trivial) (by kernel_rfl) (Deaf.block (Deaf.thens (Deaf.thens (Deaf.block (Deaf.thens (Deaf.body RetM.not_panicked)))))) (fun w_ _ => (by kernel_rfl)) trivial ?_
    refine DW.take (T := fun w_ => PH.all w_ b5 = some (.cells #[(.int .i64 (((xs.getD k valE.dflt)).k)), (.int .i64 (((xs.getD k valE.dflt)).i)), (.string (((xs.getD k valE.dflt)).s))] 29 (0, 0))) 5 (.int .i64 (((xs.getD k valE.dflt)).i)) rfl (by kernel_rfl) rfl (by kernel_rfl) (.inr (by simp only [List.mem_cons, true_or, or_true])) (by kernel_rfl) (Deaf.block (Deaf.thens (Deaf.thens (Deaf.block (Deaf.thens (Deaf.body RetM.not_panicked)))))) (fun w_ T_ => (q_load (off := 1) rfl (by kernel_rfl) (by kernel_rfl) T_ (by kernel_rfl))) ((G7.drew).imm _ _ ((PH.le_refl _) _ _ hb7)) ?_
    refine DW.take (T := fun _ => True) 9 (.pointer (some ⟨b5, 2, none⟩)) rfl (by kernel_rfl) rfl (by kernel_rfl) (.inl fun _ => trivial) (by kernel_rfl) (Deaf.block (Deaf.thens (Deaf.thens (Deaf.block (Deaf.thens (Deaf.body RetM.not_panicked)))))) (fun w_ _ => (by kernel_rfl)) trivial ?_
    refine DW.take (T := fun w_ => PH.all w_ b5 = some (.cells #[(.int .i64 (((xs.getD k valE.dflt)).k)), (.int .i64 (((xs.getD k valE.dflt)).i)), (.string (((xs.getD k valE.dflt)).s))] 29 (0, 0))) 10 (.string (((xs.getD k valE.dflt)).s)) rfl (by kernel_rfl) rfl (by kernel_rfl) (.inr (by simp only [List.mem_cons, true_or, or_true])) (by kernel_rfl) (Deaf.block (Deaf.thens (Deaf.thens (Deaf.block (Deaf.thens (Deaf.body RetM.not_panicked)))))) (fun w_ T_ => (q_load (off := 2) rfl (by kernel_rfl) (by kernel_rfl) T_ (by kernel_rfl))) ((G7.drew).imm _ _ ((PH.le_refl _) _ _ hb7)) ?_
    refine DW.take (T := fun _ => True) 11 (.int .i64 ((((xs.getD k valE.dflt)).s).size : Int)) rfl (by kernel_rfl) rfl (by kernel_rfl) (.inl fun _ => trivial) (by kernel_rfl) (Deaf.block (Deaf.thens (Deaf.thens (Deaf.block (Deaf.thens (Deaf.body RetM.not_panicked)))))) (fun w_ _ => (by kernel_rfl)) trivial ?_
    refine DW.take (T := fun _ => True) 15 (.pointer (some ⟨b5, 2, none⟩)) rfl (by kernel_rfl) rfl (by kernel_rfl) (.inl fun _ => trivial) (by kernel_rfl) (Deaf.block (Deaf.thens (Deaf.thens (Deaf.block (Deaf.thens (Deaf.body RetM.not_panicked)))))) (fun w_ _ => (by kernel_rfl)) trivial ?_
    refine DW.take (T := fun w_ => PH.all w_ b5 = some (.cells #[(.int .i64 (((xs.getD k valE.dflt)).k)), (.int .i64 (((xs.getD k valE.dflt)).i)), (.string (((xs.getD k valE.dflt)).s))] 29 (0, 0))) 16 (.string (((xs.getD k valE.dflt)).s)) rfl (by kernel_rfl) rfl (by kernel_rfl) (.inr (by simp only [List.mem_cons, true_or, or_true])) (by kernel_rfl) (Deaf.block (Deaf.thens (Deaf.thens (Deaf.block (Deaf.thens (Deaf.body RetM.not_panicked)))))) (fun w_ T_ => (q_load (off := 2) rfl (by kernel_rfl) (by kernel_rfl) T_ (by kernel_rfl))) ((G7.drew).imm _ _ ((PH.le_refl _) _ _ hb7)) ?_
    refine DW.only 2 (by kernel_rfl) ?_
    refine DOp.call rfl (by kernel_rfl) rfl (by kernel_rfl) (by kernel_rfl) (itoa_spec (G7.drew) (T.mono (l2.trans l7)) (((xs.getD k valE.dflt)).k) (by omega) (by omega)) (Ret.elimD (fun w8 h8 l8 G8 => ⟨.inl (by kernel_rfl), .inr (fun _ => (G8.imm _ _ (l8 _ _ hb7))), .inr (fun _ => (G8.imm _ _ (l8 _ _ hb7))), .inr (fun _ => (G8.imm _ _ (l8 _ _ hb7))), trivial⟩) ?_)
    rintro w8 h8 _ l8 G8 rfl
    refine DW.take (T := fun _ => True) 3 (.string ((itoaB (((xs.getD k valE.dflt)).k)) ++ (ByteArray.mk #[32]))) rfl (by kernel_rfl) rfl (by kernel_rfl) (.inl fun _ => trivial) (by kernel_rfl) (Deaf.block (Deaf.thens (Deaf.thens (Deaf.block (Deaf.thens (Deaf.body RetM.not_panicked)))))) (fun w_ _ => (q_strAdd rfl (by kernel_rfl) (by kernel_rfl) (by simp only [ByteArray.size_append, size1]; omega))) trivial ?_
    refine DW.only 6 (by kernel_rfl) ?_
    refine DOp.call rfl (by kernel_rfl) rfl (by kernel_rfl) (by kernel_rfl) (text_spec G8 (T.mono ((l2.trans l7).trans l8)) (((xs.getD k valE.dflt)).i) (by omega) (by omega)) (Ret.elimD (fun w9 h9 l9 G9 => ⟨.inr (fun _ => (G9.imm _ _ ((l8.trans l9) _ _ hb7))), .inl (by kernel_rfl), .inr (fun _ => (G9.imm _ _ ((l8.trans l9) _ _ hb7))), .inr (fun _ => (G9.imm _ _ ((l8.trans l9) _ _ hb7))), trivial⟩) ?_)
    rintro w9 h9 _ l9 G9 rfl
    refine DW.take (T := fun _ => True) 7 (.string (((itoaB (((xs.getD k valE.dflt)).k)) ++ (ByteArray.mk #[32])) ++ (itoaB (((xs.getD k valE.dflt)).i)))) rfl (by kernel_rfl) rfl (by kernel_rfl) (.inl fun _ => trivial) (by kernel_rfl) (Deaf.block (Deaf.thens (Deaf.thens (Deaf.block (Deaf.thens (Deaf.body RetM.not_panicked)))))) (fun w_ _ => (q_strAdd rfl (by kernel_rfl) (by kernel_rfl) (by simp only [ByteArray.size_append, size1]; omega))) trivial ?_
    refine DW.take (T := fun _ => True) 8 (.string ((((itoaB (((xs.getD k valE.dflt)).k)) ++ (ByteArray.mk #[32])) ++ (itoaB (((xs.getD k valE.dflt)).i))) ++ (ByteArray.mk #[32]))) rfl (by kernel_rfl) rfl (by kernel_rfl) (.inl fun _ => trivial) (by kernel_rfl) (Deaf.block (Deaf.thens (Deaf.thens (Deaf.block (Deaf.thens (Deaf.body RetM.not_panicked)))))) (fun w_ _ => (q_strAdd rfl (by kernel_rfl) (by kernel_rfl) (by simp only [ByteArray.size_append, size1]; omega))) trivial ?_
    refine DW.only 12 (by kernel_rfl) ?_
    refine DOp.call rfl (by kernel_rfl) rfl (by kernel_rfl) (by kernel_rfl) (itoa_spec G9 (T.mono (((l2.trans l7).trans l8).trans l9)) ((((xs.getD k valE.dflt)).s).size : Int) (by omega) (by omega)) (Ret.elimD (fun w10 h10 l10 G10 => ⟨.inr (fun _ => (G10.imm _ _ (((l8.trans l9).trans l10) _ _ hb7))), .inr (fun _ => (G10.imm _ _ (((l8.trans l9).trans l10) _ _ hb7))), .inr (fun _ => (G10.imm _ _ (((l8.trans l9).trans l10) _ _ hb7))), .inr (fun _ => (G10.imm _ _ (((l8.trans l9).trans l10) _ _ hb7))), trivial⟩) ?_)
    rintro w10 h10 _ l10 G10 rfl
    refine DW.take (T := fun _ => True) 13 (.string (((((itoaB (((xs.getD k valE.dflt)).k)) ++ (ByteArray.mk #[32])) ++ (itoaB (((xs.getD k valE.dflt)).i))) ++ (ByteArray.mk #[32])) ++ (itoaB ((((xs.getD k valE.dflt)).s).size : Int)))) rfl (by kernel_rfl) rfl (by kernel_rfl) (.inl fun _ => trivial) (by kernel_rfl) (Deaf.block (Deaf.thens (Deaf.thens (Deaf.block (Deaf.thens (Deaf.body RetM.not_panicked)))))) (fun w_ _ => (q_strAdd rfl (by kernel_rfl) (by kernel_rfl) (by simp only [ByteArray.size_append, size1]; omega))) trivial ?_
    refine DW.take (T := fun _ => True) 14 (.string ((((((itoaB (((xs.getD k valE.dflt)).k)) ++ (ByteArray.mk #[32])) ++ (itoaB (((xs.getD k valE.dflt)).i))) ++ (ByteArray.mk #[32])) ++ (itoaB ((((xs.getD k valE.dflt)).s).size : Int))) ++ (ByteArray.mk #[58]))) rfl (by kernel_rfl) rfl (by kernel_rfl) (.inl fun _ => trivial) (by kernel_rfl) (Deaf.block (Deaf.thens (Deaf.thens (Deaf.block (Deaf.thens (Deaf.body RetM.not_panicked)))))) (fun w_ _ => (q_strAdd rfl (by kernel_rfl) (by kernel_rfl) (by simp only [ByteArray.size_append, size1]; omega))) trivial ?_
    refine DW.take (T := fun _ => True) 17 (.string (((((((itoaB (((xs.getD k valE.dflt)).k)) ++ (ByteArray.mk #[32])) ++ (itoaB (((xs.getD k valE.dflt)).i))) ++ (ByteArray.mk #[32])) ++ (itoaB ((((xs.getD k valE.dflt)).s).size : Int))) ++ (ByteArray.mk #[58])) ++ (((xs.getD k valE.dflt)).s))) rfl (by kernel_rfl) rfl (by kernel_rfl) (.inl fun _ => trivial) (by kernel_rfl) (Deaf.block (Deaf.thens (Deaf.thens (Deaf.block (Deaf.thens (Deaf.body RetM.not_panicked)))))) (fun w_ _ => (q_strAdd rfl (by kernel_rfl) (by kernel_rfl) (by simp only [ByteArray.size_append, size1]; omega))) trivial ?_
    refine DW.know 29 (.string (itemF (xs.getD k valE.dflt))) (x := (.string (((((((itoaB (((xs.getD k valE.dflt)).k)) ++ (ByteArray.mk #[32])) ++ (itoaB (((xs.getD k valE.dflt)).i))) ++ (ByteArray.mk #[32])) ++ (itoaB ((((xs.getD k valE.dflt)).s).size : Int))) ++ (ByteArray.mk #[58])) ++ (((xs.getD k valE.dflt)).s)))) (by kernel_rfl) (rfl) ?_
    refine DW.only 18 (by kernel_rfl) ?_
    refine DOp.call rfl (by kernel_rfl) rfl (by kernel_rfl) (by kernel_rfl) (ws_spec G10 o_bld2 (itemF (xs.getD k valE.dflt)) (by omega)) (RetM.elimD (fun w11 h11 M11 v_ l11 G11 p_ => by obtain ⟨rfl, A11⟩ := p_; exact ⟨.inr (fun _ => (G11.imm _ _ ((((l8.trans l9).trans l10).trans l11) _ _ hb7))), .inr (fun _ => (G11.imm _ _ ((((l8.trans l9).trans l10).trans l11) _ _ hb7))), .inr (fun _ => (G11.imm _ _ ((((l8.trans l9).trans l10).trans l11) _ _ hb7))), .inr (fun _ => (G11.imm _ _ ((((l8.trans l9).trans l10).trans l11) _ _ hb7))), trivial⟩) ?_)
    rintro w11 h11 M11 _ l11 G11 ⟨rfl, A11⟩
    refine DW.done (by kernel_rfl) ?_
    refine EX.in_block ?_
    refine EX.then_code ?_
    refine CW.region ?_
    refine WL.q (.int .i64 ((k + 1 : Nat) : Int)) (by kernel_rfl) rfl (by kernel_rfl) (q_int (x := IntKind.i64.wrap ((k : Int) + 1)) (by kernel_rfl) (wrap_to (by omega) (by omega) (by omega))) ?_
    refine WL.q (.int .i64 ((k + 1 : Nat) : Int)) (by kernel_rfl) rfl (by kernel_rfl) (by kernel_rfl) ?_
    refine WL.nil ?_
    exact EX.then_loop (k + 1) ⟨(by kernel_rfl), (by kernel_rfl), (by kernel_rfl), (by kernel_rfl), (lk_int (x := ((k + 1 : Nat) : Int)) (by kernel_rfl) (by first | omega | (dsimp only; done) | (dsimp only; omega))), trivial⟩ ⟨h11, M11, (((((l2.trans l7).trans l8).trans l9).trans l10).trans l11), G11, (((hashL_succ xs (k := k) (by omega)).symm) ▸ A11), (by first | omega | assumption | (dsimp only [List.length_nil, List.length_append, List.length_cons]; omega))⟩ (by first | omega | (dsimp only; omega))
  ·
    skip
    have d12 := of_decide_eq_false c3
    refine CW.exit ?_
    refine EX.exit_then ?_
    refine EX.exit_then ?_
    refine EX.exit_here ?_
    refine EX.then_code ?_
    refine CW.seq ?_
    refine CW.region ?_
    obtain rfl : k = xs.length := by omega
    refine WL.call (by kernel_rfl) rfl (by kernel_rfl) (by kernel_rfl) (bstr_spec F l2 o_bld2 G2 G.dis) (Ret.elim ?_)
    rintro w13 h13 _ l13 G13 rfl
    refine WL.q (.string (ByteArray.mk (hashL (xs.take xs.length)).toArray)) (by kernel_rfl) rfl (by kernel_rfl) (by kernel_rfl) ?_
    refine WL.nil ?_
    refine EX.then_code ?_
    refine CW.ret ?_
    refine EX.ret1 (v := (.string (ByteArray.mk (hashL (xs.take xs.length)).toArray))) rfl (by kernel_rfl) ?_
    exact Ret.mk l13 G13 (congrArg Value.string (by rw [List.take_length]; rfl))

theorem hash_spec {K : Key} {w : World} {h M : PH} (G : Wld K w h M) (T : Tab Tryd.prog h) {a : Option Addr} {xs : List Val} {c : Nat} (Hx : RS h valE a xs) (hb : xs.length ≤ 110) (hok : ∀ v ∈ xs, ValOk v) :
    Calls Tryd.prog 31 #[.slice a xs.length c] w (Ret K h M fun _ v => v = .string (hashF xs)) := by
  obtain ⟨G', hl, F⟩ := G.full
  exact (hash_full G' F (T.mono hl) (Hx.mono hl) hb hok).mono fun e w' r => r.less hl

theorem ofStr_spec {K : Key} {w : World} {h M : PH} (G : Wld K w h M) (s : ByteArray) :
    Calls Tryd.prog 32 #[.string s] w (Ret K h M fun _ v => v = .agg (valE.enc ⟨3, 0, s⟩).toArray) := by
  refine enter (l := [(.string s)]) Tryd.func32 rfl Tryd.ntmps32 (Nat.le_of_ble_eq_true rfl) ?_
  simp only [params]
  refine CW.seq ?_
  refine CW.region ?_
  refine WL.ex (by kernel_rfl) rfl (by kernel_rfl) (q_newB (ob := (.cells #[(.int .i64 0), (.int .i64 0), (.string (ByteArray.mk #[]))] 29 (0, 0))) G (fun b_ => .pointer (some ⟨b_, 0, none⟩)) (fun u_ => by kernel_rfl)) ?_
  rintro _ w14 ⟨b14, M14, rfl, G14, B14, L14⟩
  refine WL.nil ?_
  refine EX.then_code ?_
  refine CW.seq ?_
  refine CW.region ?_
  refine WL.q (.string s) (by kernel_rfl) rfl (by kernel_rfl) (by kernel_rfl) ?_
  refine WL.q (.agg #[(.int .i64 3), (.int .i64 0), (.string s)]) (by kernel_rfl) rfl (by kernel_rfl) (by kernel_rfl) ?_
  refine WL.exu (by kernel_rfl) rfl (by kernel_rfl) (q_storeB (off := 0) (et := 29) (v := (.agg #[(.int .i64 3), (.int .i64 0), (.string s)])) (vs := [(.int .i64 3), (.int .i64 0), (.string s)]) #[(.int .i64 3), (.int .i64 0), (.string s)] G14 B14 rfl (by kernel_rfl) (by kernel_rfl) (by kernel_rfl) (by kernel_rfl) (by simp [Value.oneCell']) (by simp) (by kernel_rfl)) ?_
  rintro w15 ⟨M15, G15, B15⟩
  obtain ⟨h16, l16, G16, hb16⟩ := B15.freeze G15
  refine WL.nil ?_
  refine EX.then_code ?_
  refine CW.ret ?_
  refine EX.retCell (vs := [(.int .i64 3), (.int .i64 0), (.string s)]) rfl (by kernel_rfl) (by kernel_rfl) (G16.imm _ _ ((PH.le_refl _) _ _ hb16)) (agg_at (by kernel_rfl)) ?_
  exact Ret.mk l16 G16 rfl

theorem int_spec {K : Key} {w : World} {h M : PH} (G : Wld K w h M) (n : Int) :
    Calls Tryd.prog 10 #[.int .i64 n] w (Ret K h M fun _ v => v = .agg (valE.enc ⟨1, n, ByteArray.mk #[]⟩).toArray) := by
  refine enter (l := [(.int .i64 n)]) Tryd.func10 rfl Tryd.ntmps10 (Nat.le_of_ble_eq_true rfl) ?_
  simp only [params]
  refine CW.seq ?_
  refine CW.region ?_
  refine WL.ex (by kernel_rfl) rfl (by kernel_rfl) (q_newB (ob := (.cells #[(.int .i64 0), (.int .i64 0), (.string (ByteArray.mk #[]))] 29 (0, 0))) G (fun b_ => .pointer (some ⟨b_, 0, none⟩)) (fun u_ => by kernel_rfl)) ?_
  rintro _ w17 ⟨b17, M17, rfl, G17, B17, L17⟩
  refine WL.nil ?_
  refine EX.then_code ?_
  refine CW.seq ?_
  refine CW.region ?_
  refine WL.q (.int .i64 n) (by kernel_rfl) rfl (by kernel_rfl) (by kernel_rfl) ?_
  refine WL.q (.agg #[(.int .i64 1), (.int .i64 n), (.string (ByteArray.mk #[]))]) (by kernel_rfl) rfl (by kernel_rfl) (by kernel_rfl) ?_
  refine WL.exu (by kernel_rfl) rfl (by kernel_rfl) (q_storeB (off := 0) (et := 29) (v := (.agg #[(.int .i64 1), (.int .i64 n), (.string (ByteArray.mk #[]))])) (vs := [(.int .i64 1), (.int .i64 n), (.string (ByteArray.mk #[]))]) #[(.int .i64 1), (.int .i64 n), (.string (ByteArray.mk #[]))] G17 B17 rfl (by kernel_rfl) (by kernel_rfl) (by kernel_rfl) (by kernel_rfl) (by simp [Value.oneCell']) (by simp) (by kernel_rfl)) ?_
  rintro w18 ⟨M18, G18, B18⟩
  obtain ⟨h19, l19, G19, hb19⟩ := B18.freeze G18
  refine WL.nil ?_
  refine EX.then_code ?_
  refine CW.ret ?_
  refine EX.retCell (vs := [(.int .i64 1), (.int .i64 n), (.string (ByteArray.mk #[]))]) rfl (by kernel_rfl) (by kernel_rfl) (G19.imm _ _ ((PH.le_refl _) _ _ hb19)) (agg_at (by kernel_rfl)) ?_
  exact Ret.mk l19 G19 rfl

theorem key_spec {K : Key} {w : World} {h M : PH} (G : Wld K w h M) (T : Tab Tryd.prog h) {t : ByteArray} {a : Option Addr} {xs : List Val} {c : Nat} (Hx : RS h valE a xs) (hok : FactOk t xs) :
    Calls Tryd.prog 23 #[.string t, .slice a xs.length c] w (Ret K h M fun _ v => v = .string (keyF t xs)) := by
  have hl100 := hok.2.1
  refine enter (l := [(.string t), (.slice a xs.length c)]) Tryd.func23 rfl Tryd.ntmps23 (Nat.le_of_ble_eq_true rfl) ?_
  simp only [params]
  refine CW.seq ?_
  refine CW.region ?_
  refine WL.q (.string (ByteArray.mk #[])) (by kernel_rfl) rfl (by kernel_rfl) (by kernel_rfl) ?_
  refine WL.nil ?_
  refine EX.then_code ?_
  refine CW.seq ?_
  refine CW.region ?_
  refine WL.q (.string t) (by kernel_rfl) rfl (by kernel_rfl) (by kernel_rfl) ?_
  refine WL.call (by kernel_rfl) rfl (by kernel_rfl) (by kernel_rfl) (ofStr_spec G t) (Ret.elim ?_)
  rintro w20 h20 _ l20 G20 rfl
  refine WL.ex (by kernel_rfl) rfl (by kernel_rfl) (q_newB (ob := (.cells #[(.int .i64 3), (.int .i64 0), (.string t)] 29 (0, 0))) G20 (fun b_ => .slice (some ⟨b_, 0, none⟩) 1 1) (fun u_ => by kernel_rfl)) ?_
  rintro _ w21 ⟨b21, M21, rfl, G21, B21, L21⟩
  have o21 : Own 29 valE M M21 (some ⟨b21, 0, none⟩) 1 [(Val.mk 3 0 t)] := Own.lit2 B21 (by kernel_rfl) (by kernel_rfl) (by decide)
  refine WL.q (.slice a xs.length c) (by kernel_rfl) rfl (by kernel_rfl) (by kernel_rfl) ?_
  refine WL.ex (by kernel_rfl) rfl (by kernel_rfl) (q_app (e := 29) (bytes := 32) (cap := 1) (c2 := c) (M0 := M) (xs := ([(Val.mk 3 0 t)])) (ys := xs) G21 o21 (Hx.mono (l20.trans G21.imm)) rfl (by kernel_rfl) (by kernel_rfl) (by kernel_rfl) (by first | (simp only [maxLen, List.length_append, List.length_cons, List.length_nil]; omega) | (simp only [maxLen]; omega)) (by first | omega | (simp only [List.length_append, List.length_cons, List.length_nil]; omega))) ?_
  rintro _ w22 ⟨a22, k22, M22, rfl, G22, o22, z22⟩
  obtain ⟨h23, l23, G23, r23⟩ := o22.freeze G22
  refine WL.call (by kernel_rfl) rfl (by kernel_rfl) (by kernel_rfl) (hash_spec G23 (T.mono (l20.trans l23)) (xs := (([(Val.mk 3 0 t)]) ++ xs)) (c := k22) (r23.mono (PH.le_refl _)) (by simp only [List.length_append, List.length_cons, List.length_nil]; omega) (by intro v_ hv_; rcases List.mem_append.1 hv_ with q_ | q_; (obtain rfl := List.mem_singleton.1 q_; exact ⟨by simp, by simp, hok.1⟩); (exact hok.2.2 _ q_))) (Ret.elim ?_)
  rintro w24 h24 _ l24 G24 rfl
  refine WL.q (.string (keyF t xs)) (by kernel_rfl) rfl (by kernel_rfl) (by kernel_rfl) ?_
  refine WL.nil ?_
  refine EX.then_code ?_
  refine CW.ret ?_
  refine EX.ret1 (v := (.string (keyF t xs))) rfl (by kernel_rfl) ?_
  exact Ret.mk ((l20.trans l23).trans l24) G24 rfl
end Go.Proofs
