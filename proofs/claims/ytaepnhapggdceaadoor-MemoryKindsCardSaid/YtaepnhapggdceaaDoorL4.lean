import Derived.Test.YtaepnhapggdceaaDoorKd
namespace Go.Proofs
open Go Go.Wk
theorem kinds_spec {K : Key} {w : World} {h M : PH} (G : Wld K w h M) (T : Tab Tryd.prog h) {a : Option Addr} {l : List UInt8} {c : Nat} (Hl : RS h bytE a l) {t : Nat} (ht : t ≤ 255) :
    Calls Tryd.prog 4 #[.slice a l.length c, .int .u8 (t : Nat)] w (Ret K h M fun _ v => v = .bool true) := by
  have hut : t ≤ 255 := ht
  refine enter (l := [(.slice a l.length c), (.int .u8 (t : Int))]) Tryd.func4 rfl Tryd.ntmps4 (Nat.le_of_ble_eq_true rfl) ?_
  simp only [params]
  refine CW.seq ?_
  refine CW.region ?_
  refine WL.q (.bool false) (by kernel_rfl) rfl (by kernel_rfl) (by kernel_rfl) ?_
  refine WL.nil ?_
  refine EX.then_code ?_
  refine CW.seq ?_
  refine CW.seq ?_
  refine CW.region ?_
  refine WL.call (by kernel_rfl) rfl (by kernel_rfl) (by kernel_rfl) (known_spec G (T.mono (PH.le_refl _))) (Ret.elim ?_)
  rintro w1 h1 _ l1 G1 rfl
  refine WL.q (.bool false) (by kernel_rfl) rfl (by kernel_rfl) (by kernel_rfl) ?_
  refine WL.nil ?_
  refine EX.then_code ?_
  refine CW.cond_f (by kernel_rfl) (by kernel_rfl) ?_
  refine CW.skip ?_
  refine EX.then_code ?_
  refine CW.seq ?_
  refine CW.seq ?_
  refine CW.region ?_
  refine WL.q (.slice a l.length c) (by kernel_rfl) rfl (by kernel_rfl) (by kernel_rfl) ?_
  refine WL.q (.int .i64 (l.length : Int)) (by kernel_rfl) rfl (by kernel_rfl) (by kernel_rfl) ?_
  refine WL.q (.bool (decide ((l.length : Int) > 100))) (by kernel_rfl) rfl (by kernel_rfl) (by kernel_rfl) ?_
  refine WL.nil ?_
  refine EX.then_code ?_
  refine CW.cond (decide ((l.length : Int) > 100)) (by kernel_rfl) (by kernel_rfl) (fun c2 => ?_) (fun c2 => ?_)
  ·
    skip
    have d3 := of_decide_eq_true c2
    refine CW.seq ?_
    refine CW.region ?_
    refine WL.q (.bool true) (by kernel_rfl) rfl (by kernel_rfl) (by kernel_rfl) ?_
    refine WL.nil ?_
    refine EX.then_code ?_
    refine CW.ret ?_
    refine EX.ret_then ?_
    refine EX.ret1 (v := (.bool true)) rfl (by kernel_rfl) ?_
    exact Ret.mk l1 G1 rfl
  ·
    skip
    have d4 := of_decide_eq_false c2
    refine CW.skip ?_
    refine EX.then_code ?_
    refine CW.seq ?_
    refine CW.region ?_
    refine WL.call (by kernel_rfl) rfl (by kernel_rfl) (by kernel_rfl) (newA G1) (RetM.elim ?_)
    rintro w5 h5 M5 _ l5 G5 ⟨p5, rfl, A5⟩
    refine WL.q (.pointer (some ⟨p5, 0, none⟩)) (by kernel_rfl) rfl (by kernel_rfl) (by kernel_rfl) ?_
    refine WL.nil ?_
    refine EX.then_code ?_
    refine CW.seq ?_
    refine CW.region ?_
    refine WL.ex (by kernel_rfl) rfl (by kernel_rfl) (q_newF (ob := (.cells #[(.string (ByteArray.mk #[112])), (.string (ByteArray.mk #[113])), (.string (ByteArray.mk #[114]))] 9 (0, 0))) G5 (fun b_ => .slice (some ⟨b_, 0, none⟩) 3 3) (fun u_ => by kernel_rfl)) ?_
    rintro _ w6 ⟨b6, h6, rfl, l6, G6, hb6, L6⟩
    have r7 : RS h6 strE (some ⟨b6, 0, none⟩) [(ByteArray.mk #[112]), (ByteArray.mk #[113]), (ByteArray.mk #[114])] := RS.blk hb6 (by kernel_rfl)
    refine WL.q (.slice (some ⟨b6, 0, none⟩) 3 3) (by kernel_rfl) rfl (by kernel_rfl) (by kernel_rfl) ?_
    refine WL.nil ?_
    refine EX.then_code ?_
    refine CW.seq ?_
    refine CW.seq ?_
    refine CW.region ?_
    refine WL.q (.int .i64 0) (by kernel_rfl) rfl (by kernel_rfl) (by kernel_rfl) ?_
    refine WL.nil ?_
    refine EX.then_code ?_
    refine CW.block ?_
    refine CW.loop (β := Nat × List Dat × Int) (fun x_ => [(0, (.slice a l.length c)), (1, (.int .u8 (t : Int))), (4, (.bool false)), (5, (.pointer (some ⟨p5, 0, none⟩))), (6, (.slice (some ⟨b6, 0, none⟩) 3 3)), (7, (.int .i64 (x_.1 : Int)))]) (fun x_ w_ => ∃ h_ M0_, (PH.le h6 h_) ∧ (Wld K w_ h_ M0_) ∧ (MemA h_ p5 x_.2.1 x_.2.2 M M0_) ∧ (x_.1 ≤ l.length) ∧ (x_.2.1.length ≤ x_.1) ∧ (x_.2.2 ≤ (x_.1 : Int) + 1) ∧ (∀ d ∈ x_.2.1, ∃ k, d.2.1 = nm3 k)) (fun x_ => l.length - x_.1) ⟨0, [], 1⟩ ⟨(by kernel_rfl), (by kernel_rfl), (by kernel_rfl), (by kernel_rfl), (by kernel_rfl), (lk_int (x := 0) (by kernel_rfl) (by first | omega | (dsimp only; done) | (dsimp only; omega))), trivial⟩ ⟨h6, M5, (PH.le_refl _), G6, (MemA.mono l6 A5), (by first | omega | assumption | (dsimp only [List.length_nil, List.length_append, List.length_cons]; omega)), (Nat.le_refl _), (by first | omega | assumption | (dsimp only [List.length_nil, List.length_append, List.length_cons]; omega)), (by simp)⟩ ?_
    rintro ⟨i, ds, nx⟩ w8 ⟨h8, M0_8, l8, G8, o_mem8, hi, hdl, hnx, h3⟩
    try dsimp only at *
    have hub := UInt8.toNat_lt (l.getD i bytE.dflt)
    refine CW.seq ?_
    refine CW.seq ?_
    refine CW.region ?_
    refine WL.q (.int .i64 (i : Int)) (by kernel_rfl) rfl (by kernel_rfl) (by kernel_rfl) ?_
    refine WL.q (.slice a l.length c) (by kernel_rfl) rfl (by kernel_rfl) (by kernel_rfl) ?_
    refine WL.q (.int .i64 (l.length : Int)) (by kernel_rfl) rfl (by kernel_rfl) (by kernel_rfl) ?_
    refine WL.q (.bool (decide ((i : Int) < (l.length : Int)))) (by kernel_rfl) rfl (by kernel_rfl) (by kernel_rfl) ?_
    refine WL.nil ?_
    refine EX.then_code ?_
    refine CW.cond (decide ((i : Int) < (l.length : Int))) (by kernel_rfl) (by kernel_rfl) (fun c9 => ?_) (fun c9 => ?_)
    ·
      skip
      have d10 := of_decide_eq_true c9
      refine CW.skip ?_
      refine EX.then_code ?_
      refine CW.seq ?_
      refine CW.block ?_
      refine CW.draw (by kernel_rfl) [(5, fun w_ => RS (PH.all w_) bytE a l), (8, fun w_ => RS (PH.all w_) strE (some ⟨b6, 0, none⟩) ([(ByteArray.mk #[112]), (ByteArray.mk #[113]), (ByteArray.mk #[114])])), (12, fun w_ => RS (PH.all w_) bytE a l)] ?_
      refine DW.take (T := fun _ => True) 0 (.pointer (some ⟨p5, 0, none⟩)) rfl (by kernel_rfl) rfl (by kernel_rfl) (.inl fun _ => trivial) (by kernel_rfl) (Deaf.block (Deaf.thens (Deaf.thens (Deaf.block (Deaf.thens (Deaf.body RetM.not_panicked)))))) (fun w_ _ => (by kernel_rfl)) trivial ?_
      refine DW.take (T := fun _ => True) 1 (.slice (some ⟨b6, 0, none⟩) 3 3) rfl (by kernel_rfl) rfl (by kernel_rfl) (.inl fun _ => trivial) (by kernel_rfl) (Deaf.block (Deaf.thens (Deaf.thens (Deaf.block (Deaf.thens (Deaf.body RetM.not_panicked)))))) (fun w_ _ => (by kernel_rfl)) trivial ?_
      refine DW.take (T := fun _ => True) 2 (.slice a l.length c) rfl (by kernel_rfl) rfl (by kernel_rfl) (.inl fun _ => trivial) (by kernel_rfl) (Deaf.block (Deaf.thens (Deaf.thens (Deaf.block (Deaf.thens (Deaf.body RetM.not_panicked)))))) (fun w_ _ => (by kernel_rfl)) trivial ?_
      refine DW.take (T := fun _ => True) 3 (.int .i64 (i : Int)) rfl (by kernel_rfl) rfl (by kernel_rfl) (.inl fun _ => trivial) (by kernel_rfl) (Deaf.block (Deaf.thens (Deaf.thens (Deaf.block (Deaf.thens (Deaf.body RetM.not_panicked)))))) (fun w_ _ => (by kernel_rfl)) trivial ?_
      refine DW.take (T := fun _ => True) 4 (eptr a (i * bytE.sz)) rfl (by kernel_rfl) rfl (by kernel_rfl) (.inl fun _ => trivial) (by kernel_rfl) (Deaf.block (Deaf.thens (Deaf.thens (Deaf.block (Deaf.thens (Deaf.body RetM.not_panicked)))))) (fun w_ _ => (q_indexAddr (i := i) (E := bytE) (xs := l) (e := 5) (c := c) (k := .i64) (m := l.length) rfl rfl (by kernel_rfl) (by kernel_rfl) (by kernel_rfl) (Hl.mono ((((l1.trans l5).trans l6).trans l8).trans (G8.drew).imm)) (by omega))) trivial ?_
      refine DW.take (T := fun w_ => RS (PH.all w_) bytE a l) 5 (.int .u8 ((l.getD i bytE.dflt).toNat : Int)) rfl (by kernel_rfl) rfl (by kernel_rfl) (.inr (by simp only [List.mem_cons, true_or, or_true])) (by kernel_rfl) (Deaf.block (Deaf.thens (Deaf.thens (Deaf.block (Deaf.thens (Deaf.body RetM.not_panicked)))))) (fun w_ T_ => (q_load_e (i := i) (k := 0) (E := bytE) rfl (by kernel_rfl) (by kernel_rfl) T_ (by omega) (by decide) (by kernel_rfl))) (Hl.mono ((((l1.trans l5).trans l6).trans l8).trans (G8.drew).imm)) ?_
      refine DW.take (T := fun _ => True) 6 (.int .u8 ((((l.getD i bytE.dflt).toNat) % 3 : Nat) : Int)) rfl (by kernel_rfl) rfl (by kernel_rfl) (.inl fun _ => trivial) (by kernel_rfl) (Deaf.block (Deaf.thens (Deaf.thens (Deaf.block (Deaf.thens (Deaf.body RetM.not_panicked)))))) (fun w_ _ => (q_rem (n := ((l.getD i bytE.dflt).toNat)) (m := 3) rfl (by kernel_rfl) (by kernel_rfl) (by omega))) trivial ?_
      refine DW.take (T := fun _ => True) 7 (eptr (some ⟨b6, 0, none⟩) ((((l.getD i bytE.dflt).toNat) % 3) * strE.sz)) rfl (by kernel_rfl) rfl (by kernel_rfl) (.inl fun _ => trivial) (by kernel_rfl) (Deaf.block (Deaf.thens (Deaf.thens (Deaf.block (Deaf.thens (Deaf.body RetM.not_panicked)))))) (fun w_ _ => (q_indexAddr (i := (((l.getD i bytE.dflt).toNat) % 3)) (E := strE) (xs := ([(ByteArray.mk #[112]), (ByteArray.mk #[113]), (ByteArray.mk #[114])])) (e := 9) (c := 3) (k := .u8) (m := 3) rfl rfl (by kernel_rfl) (by kernel_rfl) (by kernel_rfl) (r7.mono (l8.trans (G8.drew).imm)) (by simp only [List.length_cons, List.length_nil]; omega))) trivial ?_
      refine DW.take (T := fun w_ => RS (PH.all w_) strE (some ⟨b6, 0, none⟩) ([(ByteArray.mk #[112]), (ByteArray.mk #[113]), (ByteArray.mk #[114])])) 8 (.string (([(ByteArray.mk #[112]), (ByteArray.mk #[113]), (ByteArray.mk #[114])]).getD (((l.getD i bytE.dflt).toNat) % 3) strE.dflt)) rfl (by kernel_rfl) rfl (by kernel_rfl) (.inr (by simp only [List.mem_cons, true_or, or_true])) (by kernel_rfl) (Deaf.block (Deaf.thens (Deaf.thens (Deaf.block (Deaf.thens (Deaf.body RetM.not_panicked)))))) (fun w_ T_ => (q_load_e (i := (((l.getD i bytE.dflt).toNat) % 3)) (k := 0) (E := strE) rfl (by kernel_rfl) (by kernel_rfl) T_ (by simp only [List.length_cons, List.length_nil]; omega) (by decide) (by kernel_rfl))) (r7.mono (l8.trans (G8.drew).imm)) ?_
      refine DW.know 32 (.string (nm3 (l.getD i bytE.dflt).toNat)) (x := (.string (([(ByteArray.mk #[112]), (ByteArray.mk #[113]), (ByteArray.mk #[114])]).getD (((l.getD i bytE.dflt).toNat) % 3) strE.dflt))) (by kernel_rfl) (rfl) ?_
      refine DW.take (T := fun _ => True) 9 (.slice a l.length c) rfl (by kernel_rfl) rfl (by kernel_rfl) (.inl fun _ => trivial) (by kernel_rfl) (Deaf.block (Deaf.thens (Deaf.thens (Deaf.block (Deaf.thens (Deaf.body RetM.not_panicked)))))) (fun w_ _ => (by kernel_rfl)) trivial ?_
      refine DW.take (T := fun _ => True) 10 (.int .i64 (i : Int)) rfl (by kernel_rfl) rfl (by kernel_rfl) (.inl fun _ => trivial) (by kernel_rfl) (Deaf.block (Deaf.thens (Deaf.thens (Deaf.block (Deaf.thens (Deaf.body RetM.not_panicked)))))) (fun w_ _ => (by kernel_rfl)) trivial ?_
      refine DW.take (T := fun _ => True) 11 (eptr a (i * bytE.sz)) rfl (by kernel_rfl) rfl (by kernel_rfl) (.inl fun _ => trivial) (by kernel_rfl) (Deaf.block (Deaf.thens (Deaf.thens (Deaf.block (Deaf.thens (Deaf.body RetM.not_panicked)))))) (fun w_ _ => (q_indexAddr (i := i) (E := bytE) (xs := l) (e := 5) (c := c) (k := .i64) (m := l.length) rfl rfl (by kernel_rfl) (by kernel_rfl) (by kernel_rfl) (Hl.mono ((((l1.trans l5).trans l6).trans l8).trans (G8.drew).imm)) (by omega))) trivial ?_
      refine DW.take (T := fun w_ => RS (PH.all w_) bytE a l) 12 (.int .u8 ((l.getD i bytE.dflt).toNat : Int)) rfl (by kernel_rfl) rfl (by kernel_rfl) (.inr (by simp only [List.mem_cons, true_or, or_true])) (by kernel_rfl) (Deaf.block (Deaf.thens (Deaf.thens (Deaf.block (Deaf.thens (Deaf.body RetM.not_panicked)))))) (fun w_ T_ => (q_load_e (i := i) (k := 0) (E := bytE) rfl (by kernel_rfl) (by kernel_rfl) T_ (by omega) (by decide) (by kernel_rfl))) (Hl.mono ((((l1.trans l5).trans l6).trans l8).trans (G8.drew).imm)) ?_
      refine DW.take (T := fun _ => True) 13 (.int .u8 ((((l.getD i bytE.dflt).toNat) / 4 : Nat) : Int)) rfl (by kernel_rfl) rfl (by kernel_rfl) (.inl fun _ => trivial) (by kernel_rfl) (Deaf.block (Deaf.thens (Deaf.thens (Deaf.block (Deaf.thens (Deaf.body RetM.not_panicked)))))) (fun w_ _ => (q_shr (yk := .u64) (n := ((l.getD i bytE.dflt).toNat)) (m := 2) (p := 4) rfl (by kernel_rfl) (by kernel_rfl) (by decide) (by decide))) trivial ?_
      refine DW.take (T := fun _ => True) 14 (.int .i64 ((((l.getD i bytE.dflt).toNat) / 4 : Nat) : Int)) rfl (by kernel_rfl) rfl (by kernel_rfl) (.inl fun _ => trivial) (by kernel_rfl) (Deaf.block (Deaf.thens (Deaf.thens (Deaf.block (Deaf.thens (Deaf.body RetM.not_panicked)))))) (fun w_ _ => (q_int (by kernel_rfl) (wrap_i64 (by omega) (by omega)))) trivial ?_
      refine DW.only 15 (by kernel_rfl) ?_
      refine DOp.call rfl (by kernel_rfl) rfl (by kernel_rfl) (by kernel_rfl) (int_spec (G8.drew) ((((l.getD i bytE.dflt).toNat) / 4 : Nat) : Int)) (Ret.elimD (fun w11 h11 l11 G11 => ⟨.inr (fun _ => (Hl.mono (((((l1.trans l5).trans l6).trans l8).trans l11).trans G11.imm))), .inr (fun _ => (r7.mono ((l8.trans l11).trans G11.imm))), .inr (fun _ => (Hl.mono (((((l1.trans l5).trans l6).trans l8).trans l11).trans G11.imm))), trivial⟩) ?_)
      rintro w11 h11 _ l11 G11 rfl
      refine DW.only 16 (by kernel_rfl) ?_
      refine DOp.ex rfl (by kernel_rfl) rfl (by kernel_rfl) (q_newF (ob := (.cells #[(.int .i64 1), (.int .i64 ((((l.getD i bytE.dflt).toNat) / 4 : Nat) : Int)), (.string (ByteArray.mk #[]))] 29 (0, 0))) G11 (fun b_ => .slice (some ⟨b_, 0, none⟩) 1 1) (fun u_ => by kernel_rfl)) (fun v_ w12 p_ => by obtain ⟨b12, h12, rfl, l12, G12, hb12, L12⟩ := p_; exact ⟨.inr (fun _ => (Hl.mono ((((((l1.trans l5).trans l6).trans l8).trans l11).trans l12).trans G12.imm))), .inr (fun _ => (r7.mono (((l8.trans l11).trans l12).trans G12.imm))), .inr (fun _ => (Hl.mono ((((((l1.trans l5).trans l6).trans l8).trans l11).trans l12).trans G12.imm))), trivial⟩) ?_
      rintro _ w12 ⟨b12, h12, rfl, l12, G12, hb12, L12⟩
      have r13 : RS h12 valE (some ⟨b12, 0, none⟩) [(Val.mk 1 ((((l.getD i bytE.dflt).toNat) / 4 : Nat) : Int) (ByteArray.mk #[]))] := RS.blk hb12 (by kernel_rfl)
      refine DW.only 17 (by kernel_rfl) ?_
      refine DOp.call rfl (by kernel_rfl) rfl (by kernel_rfl) (by kernel_rfl) (assertA_any G12 (MemA.mono (l11.trans l12) o_mem8) (T.mono (((((l1.trans l5).trans l6).trans l8).trans l11).trans l12)) (t := (nm3 (l.getD i bytE.dflt).toNat)) (a := (some ⟨b12, 0, none⟩)) (xs := ([(Val.mk 1 ((((l.getD i bytE.dflt).toNat) / 4 : Nat) : Int) (ByteArray.mk #[]))])) (c := 1) (r13.mono (PH.le_refl _)) (fok1 _ (nm3_size _) (by omega) (by omega)) (by omega) (by omega)) (RetM.elimD (fun w14 h14 M14 v_ l14 G14 p_ => by obtain ⟨ia14, ib14, ds14, nx14, rfl, A14, hor14⟩ := p_; exact ⟨.inr (fun _ => (Hl.mono (((((((l1.trans l5).trans l6).trans l8).trans l11).trans l12).trans l14).trans G14.imm))), .inl (by kernel_rfl), .inr (fun _ => (Hl.mono (((((((l1.trans l5).trans l6).trans l8).trans l11).trans l12).trans l14).trans G14.imm))), trivial⟩) ?_)
      rintro w14 h14 M14 _ l14 G14 ⟨ia14, ib14, ds14, nx14, rfl, A14, hor14⟩
      refine DW.done (by kernel_rfl) ?_
      refine EX.in_block ?_
      refine EX.then_code ?_
      refine CW.region ?_
      refine WL.q (.int .i64 (i : Int)) (by kernel_rfl) rfl (by kernel_rfl) (by kernel_rfl) ?_
      refine WL.q (.int .i64 ((i + 1 : Nat) : Int)) (by kernel_rfl) rfl (by kernel_rfl) (q_int (x := IntKind.i64.wrap ((i : Int) + 1)) (by kernel_rfl) (wrap_to (by omega) (by omega) (by omega))) ?_
      refine WL.q (.int .i64 ((i + 1 : Nat) : Int)) (by kernel_rfl) rfl (by kernel_rfl) (by kernel_rfl) ?_
      refine WL.nil ?_
      exact EX.then_loop ⟨i + 1, ds14, nx14⟩ ⟨(by kernel_rfl), (by kernel_rfl), (by kernel_rfl), (by kernel_rfl), (by kernel_rfl), (lk_int (x := ((i + 1 : Nat) : Int)) (by kernel_rfl) (by first | omega | (dsimp only; done) | (dsimp only; omega))), trivial⟩ ⟨h14, M14, (((l8.trans l11).trans l12).trans l14), G14, A14, (by first | omega | assumption | (dsimp only [List.length_nil, List.length_append, List.length_cons]; omega)), (by dsimp only; rcases hor14 with ⟨q_, _⟩ | ⟨q_, _⟩ <;> rw [q_]; omega; (simp only [List.length_append, List.length_cons, List.length_nil]; omega)), (by dsimp only; rcases hor14 with ⟨_, q_⟩ | ⟨_, q_⟩ <;> omega), (of3_push h3 (k := (l.getD i bytE.dflt).toNat) hor14)⟩ (by first | omega | (dsimp only; omega))
    ·
      skip
      have d15 := of_decide_eq_false c9
      refine CW.exit ?_
      refine EX.exit_then ?_
      refine EX.exit_then ?_
      refine EX.exit_here ?_
      refine EX.then_code ?_
      refine CW.seq ?_
      refine CW.region ?_
      refine WL.q (.slice none 0 0) (by kernel_rfl) rfl (by kernel_rfl) (by kernel_rfl) ?_
      refine WL.nil ?_
      refine EX.then_code ?_
      refine CW.seq ?_
      refine CW.region ?_
      refine WL.q (.pointer (some ⟨p5, 0, none⟩)) (by kernel_rfl) rfl (by kernel_rfl) (by kernel_rfl) ?_
      refine WL.call (by kernel_rfl) rfl (by kernel_rfl) (by kernel_rfl) (allA G8 o_mem8 (PH.le_refl _)) (Ret.elim ?_)
      rintro w16 h16 _ l16 G16 ⟨a16, fs16, rfl, r16, gg16, hd16⟩
      have hdl16 := congrArg List.length hd16
      rw [List.length_map] at hdl16
      refine WL.call (by kernel_rfl) rfl (by kernel_rfl) (by kernel_rfl) (ofL_spec (fs := fs16) (c := fs16.length) G16 (r16.mono (PH.le_refl _)) gg16 (by have q_ := o_mem8.ok.len; omega)) (Ret.elim ?_)
      rintro w17 h17 _ l17 G17 ⟨a17, c17, rfl, r17⟩
      refine WL.q (.slice a17 fs16.length c17) (by kernel_rfl) rfl (by kernel_rfl) (by kernel_rfl) ?_
      refine WL.nil ?_
      refine EX.then_code ?_
      refine CW.seq ?_
      refine CW.seq ?_
      refine CW.region ?_
      refine WL.q (.int .i64 0) (by kernel_rfl) rfl (by kernel_rfl) (by kernel_rfl) ?_
      refine WL.nil ?_
      refine EX.then_code ?_
      refine CW.block ?_
      have hup := ids_up hd16 o_mem8.ok
      have hfl := o_mem8.ok.len
      refine CW.loop (β := Nat × Option Addr × Nat) (fun x_ => [(1, (.int .u8 (t : Int))), (5, (.pointer (some ⟨p5, 0, none⟩))), (6, (.slice (some ⟨b6, 0, none⟩) 3 3)), (8, (.slice x_.2.1 (((fs16.take x_.1).filter (fun f : FactD => sameS f.t (nm3 t))).length) x_.2.2)), (9, (.slice a17 fs16.length c17)), (10, (.int .i64 (x_.1 : Int)))]) (fun x_ w_ => ∃ h_ M0_, (PH.le h17 h_) ∧ (Wld K w_ h_ M0_) ∧ (Own 43 factE M0_8 M0_ x_.2.1 x_.2.2 ((fs16.take x_.1).filter (fun f : FactD => sameS f.t (nm3 t)))) ∧ (∀ e_ ∈ ((fs16.take x_.1).filter (fun f : FactD => sameS f.t (nm3 t))), factG h_ e_) ∧ (x_.1 ≤ fs16.length)) (fun x_ => fs16.length - x_.1) ⟨0, none, 0⟩ ⟨(by kernel_rfl), (by kernel_rfl), (by kernel_rfl), (by kernel_rfl), (by kernel_rfl), (lk_int (x := 0) (by kernel_rfl) (by first | omega | (dsimp only; done) | (dsimp only; omega))), trivial⟩ ⟨h17, M0_8, (PH.le_refl _), G17, (Own.cast (Own.nil 43 factE M0_8) (rfl)), (all_cast all_nil (rfl)), (by first | omega | assumption | (dsimp only [List.length_nil, List.length_append, List.length_cons]; omega))⟩ ?_
      rintro ⟨k, ao, co⟩ w18 ⟨h18, M0_18, l18, G18, o_want18, g_want18, hk⟩
      try dsimp only at *
      have hwl : ((fs16.take k).filter (fun f : FactD => sameS f.t (nm3 t))).length ≤ k := Nat.le_trans (List.length_filter_le _ _) (by rw [List.length_take]; omega)
      refine CW.seq ?_
      refine CW.seq ?_
      refine CW.region ?_
      refine WL.q (.int .i64 (k : Int)) (by kernel_rfl) rfl (by kernel_rfl) (by kernel_rfl) ?_
      refine WL.q (.slice a17 fs16.length c17) (by kernel_rfl) rfl (by kernel_rfl) (by kernel_rfl) ?_
      refine WL.q (.int .i64 (fs16.length : Int)) (by kernel_rfl) rfl (by kernel_rfl) (by kernel_rfl) ?_
      refine WL.q (.bool (decide ((k : Int) < (fs16.length : Int)))) (by kernel_rfl) rfl (by kernel_rfl) (by kernel_rfl) ?_
      refine WL.nil ?_
      refine EX.then_code ?_
      refine CW.cond (decide ((k : Int) < (fs16.length : Int))) (by kernel_rfl) (by kernel_rfl) (fun c19 => ?_) (fun c19 => ?_)
      ·
        skip
        have d20 := of_decide_eq_true c19
        refine CW.skip ?_
        refine EX.then_code ?_
        refine CW.seq ?_
        refine CW.block ?_
        refine CW.seq ?_
        refine CW.seq ?_
        refine CW.draw (by kernel_rfl) [(7, fun w_ => RS (PH.all w_) factE a17 fs16), (13, fun w_ => RS (PH.all w_) factE a17 fs16)] ?_
        refine DW.take (T := fun _ => True) 0 (.int .i64 (k : Int)) rfl (by kernel_rfl) rfl (by kernel_rfl) (.inl fun _ => trivial) (by kernel_rfl) (Deaf.thens (Deaf.thens (Deaf.block (Deaf.thens (Deaf.thens (Deaf.block (Deaf.thens (Deaf.body RetM.not_panicked)))))))) (fun w_ _ => (by kernel_rfl)) trivial ?_
        refine DW.take (T := fun _ => True) 1 (.bool (decide ((k : Int) > 0))) rfl (by kernel_rfl) rfl (by kernel_rfl) (.inl fun _ => trivial) (by kernel_rfl) (Deaf.thens (Deaf.thens (Deaf.block (Deaf.thens (Deaf.thens (Deaf.block (Deaf.thens (Deaf.body RetM.not_panicked)))))))) (fun w_ _ => (by kernel_rfl)) trivial ?_
        refine DW.take (T := fun _ => True) 2 (.bool (decide ((k : Int) > 0))) rfl (by kernel_rfl) rfl (by kernel_rfl) (.inl fun _ => trivial) (by kernel_rfl) (Deaf.thens (Deaf.thens (Deaf.block (Deaf.thens (Deaf.thens (Deaf.block (Deaf.thens (Deaf.body RetM.not_panicked)))))))) (fun w_ _ => (by kernel_rfl)) trivial ?_
        rcases bool_cases (decide ((k : Int) > 0)) with c21 | c21
        ·
          skip
          have d22 := of_decide_eq_true c21
          refine DW.know 53 (.bool true) (x := .bool (decide ((k : Int) > 0))) (by kernel_rfl) (congrArg Value.bool c21) ?_
          refine DW.take (T := fun _ => True) 3 (.slice a17 fs16.length c17) rfl (by kernel_rfl) rfl (by kernel_rfl) (.inl fun _ => trivial) (by kernel_rfl) (Deaf.thens (Deaf.thens (Deaf.block (Deaf.thens (Deaf.thens (Deaf.block (Deaf.thens (Deaf.body RetM.not_panicked)))))))) (fun w_ _ => (by kernel_rfl)) trivial ?_
          refine DW.take (T := fun _ => True) 4 (.int .i64 (k : Int)) rfl (by kernel_rfl) rfl (by kernel_rfl) (.inl fun _ => trivial) (by kernel_rfl) (Deaf.thens (Deaf.thens (Deaf.block (Deaf.thens (Deaf.thens (Deaf.block (Deaf.thens (Deaf.body RetM.not_panicked)))))))) (fun w_ _ => (by kernel_rfl)) trivial ?_
          refine DW.take (T := fun _ => True) 5 (eptr a17 (k * factE.sz)) rfl (by kernel_rfl) rfl (by kernel_rfl) (.inl fun _ => trivial) (by kernel_rfl) (Deaf.thens (Deaf.thens (Deaf.block (Deaf.thens (Deaf.thens (Deaf.block (Deaf.thens (Deaf.body RetM.not_panicked)))))))) (fun w_ _ => (q_indexAddr (i := k) (E := factE) (xs := fs16) (e := 43) (c := c17) (k := .i64) (m := fs16.length) rfl rfl (by kernel_rfl) (by kernel_rfl) (by kernel_rfl) (r17.mono (l18.trans (G18.drew).imm)) (by omega))) trivial ?_
          refine DW.take (T := fun _ => True) 6 (eptr a17 (k * factE.sz + 0)) rfl (by kernel_rfl) rfl (by kernel_rfl) (.inl fun _ => trivial) (by kernel_rfl) (Deaf.thens (Deaf.thens (Deaf.block (Deaf.thens (Deaf.thens (Deaf.block (Deaf.thens (Deaf.body RetM.not_panicked)))))))) (fun w_ _ => (q_fieldAddr_e (i := k) (k := k * factE.sz) (off := 0) rfl (by kernel_rfl) (by kernel_rfl) (r17.mono (l18.trans (G18.drew).imm)) (by omega))) trivial ?_
          refine DW.take (T := fun w_ => RS (PH.all w_) factE a17 fs16) 7 (.int .i64 (((fs16.getD k factE.dflt)).id)) rfl (by kernel_rfl) rfl (by kernel_rfl) (.inr (by simp only [List.mem_cons, true_or, or_true])) (by kernel_rfl) (Deaf.thens (Deaf.thens (Deaf.block (Deaf.thens (Deaf.thens (Deaf.block (Deaf.thens (Deaf.body RetM.not_panicked)))))))) (fun w_ T_ => (q_load_e (i := k) (k := 0) (E := factE) rfl (by kernel_rfl) (by kernel_rfl) T_ (by omega) (by decide) (by kernel_rfl))) (r17.mono (l18.trans (G18.drew).imm)) ?_
          refine DW.take (T := fun _ => True) 8 (.slice a17 fs16.length c17) rfl (by kernel_rfl) rfl (by kernel_rfl) (.inl fun _ => trivial) (by kernel_rfl) (Deaf.thens (Deaf.thens (Deaf.block (Deaf.thens (Deaf.thens (Deaf.block (Deaf.thens (Deaf.body RetM.not_panicked)))))))) (fun w_ _ => (by kernel_rfl)) trivial ?_
          refine DW.take (T := fun _ => True) 9 (.int .i64 (k : Int)) rfl (by kernel_rfl) rfl (by kernel_rfl) (.inl fun _ => trivial) (by kernel_rfl) (Deaf.thens (Deaf.thens (Deaf.block (Deaf.thens (Deaf.thens (Deaf.block (Deaf.thens (Deaf.body RetM.not_panicked)))))))) (fun w_ _ => (by kernel_rfl)) trivial ?_
          refine DW.take (T := fun _ => True) 10 (.int .i64 ((k : Int) - 1)) rfl (by kernel_rfl) rfl (by kernel_rfl) (.inl fun _ => trivial) (by kernel_rfl) (Deaf.thens (Deaf.thens (Deaf.block (Deaf.thens (Deaf.thens (Deaf.block (Deaf.thens (Deaf.body RetM.not_panicked)))))))) (fun w_ _ => (q_int (x := IntKind.i64.wrap ((k : Int) - 1)) (by kernel_rfl) (wrap_to (by omega) (by omega) (by omega)))) trivial ?_
          refine DW.take (T := fun _ => True) 11 (eptr a17 ((((k : Int) - 1).toNat) * factE.sz)) rfl (by kernel_rfl) rfl (by kernel_rfl) (.inl fun _ => trivial) (by kernel_rfl) (Deaf.thens (Deaf.thens (Deaf.block (Deaf.thens (Deaf.thens (Deaf.block (Deaf.thens (Deaf.body RetM.not_panicked)))))))) (fun w_ _ => (q_indexAddr (i := (((k : Int) - 1).toNat)) (E := factE) (xs := fs16) (e := 43) (c := c17) (k := .i64) (m := fs16.length) rfl rfl (by kernel_rfl) (by kernel_rfl) ((show _ = Value.int .i64 ((k : Int) - 1) by kernel_rfl).trans (congrArg (Value.int .i64) (by omega))) (r17.mono (l18.trans (G18.drew).imm)) (by omega))) trivial ?_
          refine DW.take (T := fun _ => True) 12 (eptr a17 ((((k : Int) - 1).toNat) * factE.sz + 0)) rfl (by kernel_rfl) rfl (by kernel_rfl) (.inl fun _ => trivial) (by kernel_rfl) (Deaf.thens (Deaf.thens (Deaf.block (Deaf.thens (Deaf.thens (Deaf.block (Deaf.thens (Deaf.body RetM.not_panicked)))))))) (fun w_ _ => (q_fieldAddr_e (i := (((k : Int) - 1).toNat)) (k := (((k : Int) - 1).toNat) * factE.sz) (off := 0) rfl (by kernel_rfl) (by kernel_rfl) (r17.mono (l18.trans (G18.drew).imm)) (by omega))) trivial ?_
          refine DW.take (T := fun w_ => RS (PH.all w_) factE a17 fs16) 13 (.int .i64 (((fs16.getD (((k : Int) - 1).toNat) factE.dflt)).id)) rfl (by kernel_rfl) rfl (by kernel_rfl) (.inr (by simp only [List.mem_cons, true_or, or_true])) (by kernel_rfl) (Deaf.thens (Deaf.thens (Deaf.block (Deaf.thens (Deaf.thens (Deaf.block (Deaf.thens (Deaf.body RetM.not_panicked)))))))) (fun w_ T_ => (q_load_e (i := (((k : Int) - 1).toNat)) (k := 0) (E := factE) rfl (by kernel_rfl) (by kernel_rfl) T_ (by omega) (by decide) (by kernel_rfl))) (r17.mono (l18.trans (G18.drew).imm)) ?_
          refine DW.take (T := fun _ => True) 14 (.bool (decide (((fs16.getD k factE.dflt)).id ≤ ((fs16.getD (((k : Int) - 1).toNat) factE.dflt)).id))) rfl (by kernel_rfl) rfl (by kernel_rfl) (.inl fun _ => trivial) (by kernel_rfl) (Deaf.thens (Deaf.thens (Deaf.block (Deaf.thens (Deaf.thens (Deaf.block (Deaf.thens (Deaf.body RetM.not_panicked)))))))) (fun w_ _ => (by kernel_rfl)) trivial ?_
          refine DW.know 65 (.bool false) (x := (.bool (decide (((fs16.getD k factE.dflt)).id ≤ ((fs16.getD (((k : Int) - 1).toNat) factE.dflt)).id)))) (by kernel_rfl) (congrArg Value.bool (decide_eq_false (by have q_ := hup (((k : Int) - 1).toNat) k (by omega) (by omega); omega))) ?_
          refine DW.take (T := fun _ => True) 15 (.bool false) rfl (by kernel_rfl) rfl (by kernel_rfl) (.inl fun _ => trivial) (by kernel_rfl) (Deaf.thens (Deaf.thens (Deaf.block (Deaf.thens (Deaf.thens (Deaf.block (Deaf.thens (Deaf.body RetM.not_panicked)))))))) (fun w_ _ => (by kernel_rfl)) trivial ?_
          refine DW.done (by kernel_rfl) ?_
          refine EX.then_code ?_
          refine CW.cond_f (by kernel_rfl) (by kernel_rfl) ?_
          refine CW.skip ?_
          refine EX.then_code ?_
          refine CW.seq ?_
          refine CW.draw (by kernel_rfl) [(4, fun w_ => RS (PH.all w_) factE a17 fs16), (9, fun w_ => RS (PH.all w_) strE (some ⟨b6, 0, none⟩) ([(ByteArray.mk #[112]), (ByteArray.mk #[113]), (ByteArray.mk #[114])]))] ?_
          refine DW.take (T := fun _ => True) 0 (.slice a17 fs16.length c17) rfl (by kernel_rfl) rfl (by kernel_rfl) (.inl fun _ => trivial) (by kernel_rfl) (Deaf.thens (Deaf.block (Deaf.thens (Deaf.thens (Deaf.block (Deaf.thens (Deaf.body RetM.not_panicked))))))) (fun w_ _ => (by kernel_rfl)) trivial ?_
          refine DW.take (T := fun _ => True) 1 (.int .i64 (k : Int)) rfl (by kernel_rfl) rfl (by kernel_rfl) (.inl fun _ => trivial) (by kernel_rfl) (Deaf.thens (Deaf.block (Deaf.thens (Deaf.thens (Deaf.block (Deaf.thens (Deaf.body RetM.not_panicked))))))) (fun w_ _ => (by kernel_rfl)) trivial ?_
          refine DW.take (T := fun _ => True) 2 (eptr a17 (k * factE.sz)) rfl (by kernel_rfl) rfl (by kernel_rfl) (.inl fun _ => trivial) (by kernel_rfl) (Deaf.thens (Deaf.block (Deaf.thens (Deaf.thens (Deaf.block (Deaf.thens (Deaf.body RetM.not_panicked))))))) (fun w_ _ => (q_indexAddr (i := k) (E := factE) (xs := fs16) (e := 43) (c := c17) (k := .i64) (m := fs16.length) rfl rfl (by kernel_rfl) (by kernel_rfl) (by kernel_rfl) (r17.mono (l18.trans ((G18.drew).drew).imm)) (by omega))) trivial ?_
          refine DW.take (T := fun _ => True) 3 (eptr a17 (k * factE.sz + 1)) rfl (by kernel_rfl) rfl (by kernel_rfl) (.inl fun _ => trivial) (by kernel_rfl) (Deaf.thens (Deaf.block (Deaf.thens (Deaf.thens (Deaf.block (Deaf.thens (Deaf.body RetM.not_panicked))))))) (fun w_ _ => (q_fieldAddr_e (i := k) (k := k * factE.sz) (off := 1) rfl (by kernel_rfl) (by kernel_rfl) (r17.mono (l18.trans ((G18.drew).drew).imm)) (by omega))) trivial ?_
          refine DW.take (T := fun w_ => RS (PH.all w_) factE a17 fs16) 4 (.string (((fs16.getD k factE.dflt)).t)) rfl (by kernel_rfl) rfl (by kernel_rfl) (.inr (by simp only [List.mem_cons, true_or, or_true])) (by kernel_rfl) (Deaf.thens (Deaf.block (Deaf.thens (Deaf.thens (Deaf.block (Deaf.thens (Deaf.body RetM.not_panicked))))))) (fun w_ T_ => (q_load_e (i := k) (k := 1) (E := factE) rfl (by kernel_rfl) (by kernel_rfl) T_ (by omega) (by decide) (by kernel_rfl))) (r17.mono (l18.trans ((G18.drew).drew).imm)) ?_
          refine DW.take (T := fun _ => True) 5 (.slice (some ⟨b6, 0, none⟩) 3 3) rfl (by kernel_rfl) rfl (by kernel_rfl) (.inl fun _ => trivial) (by kernel_rfl) (Deaf.thens (Deaf.block (Deaf.thens (Deaf.thens (Deaf.block (Deaf.thens (Deaf.body RetM.not_panicked))))))) (fun w_ _ => (by kernel_rfl)) trivial ?_
          refine DW.take (T := fun _ => True) 6 (.int .u8 (t : Int)) rfl (by kernel_rfl) rfl (by kernel_rfl) (.inl fun _ => trivial) (by kernel_rfl) (Deaf.thens (Deaf.block (Deaf.thens (Deaf.thens (Deaf.block (Deaf.thens (Deaf.body RetM.not_panicked))))))) (fun w_ _ => (by kernel_rfl)) trivial ?_
          refine DW.take (T := fun _ => True) 7 (.int .u8 ((t % 3 : Nat) : Int)) rfl (by kernel_rfl) rfl (by kernel_rfl) (.inl fun _ => trivial) (by kernel_rfl) (Deaf.thens (Deaf.block (Deaf.thens (Deaf.thens (Deaf.block (Deaf.thens (Deaf.body RetM.not_panicked))))))) (fun w_ _ => (q_rem (n := t) (m := 3) rfl (by kernel_rfl) (by kernel_rfl) (by omega))) trivial ?_
          refine DW.take (T := fun _ => True) 8 (eptr (some ⟨b6, 0, none⟩) ((t % 3) * strE.sz)) rfl (by kernel_rfl) rfl (by kernel_rfl) (.inl fun _ => trivial) (by kernel_rfl) (Deaf.thens (Deaf.block (Deaf.thens (Deaf.thens (Deaf.block (Deaf.thens (Deaf.body RetM.not_panicked))))))) (fun w_ _ => (q_indexAddr (i := (t % 3)) (E := strE) (xs := ([(ByteArray.mk #[112]), (ByteArray.mk #[113]), (ByteArray.mk #[114])])) (e := 9) (c := 3) (k := .u8) (m := 3) rfl rfl (by kernel_rfl) (by kernel_rfl) (by kernel_rfl) (r7.mono ((((l8.trans l16).trans l17).trans l18).trans ((G18.drew).drew).imm)) (by simp only [List.length_cons, List.length_nil]; omega))) trivial ?_
          refine DW.take (T := fun w_ => RS (PH.all w_) strE (some ⟨b6, 0, none⟩) ([(ByteArray.mk #[112]), (ByteArray.mk #[113]), (ByteArray.mk #[114])])) 9 (.string (([(ByteArray.mk #[112]), (ByteArray.mk #[113]), (ByteArray.mk #[114])]).getD (t % 3) strE.dflt)) rfl (by kernel_rfl) rfl (by kernel_rfl) (.inr (by simp only [List.mem_cons, true_or, or_true])) (by kernel_rfl) (Deaf.thens (Deaf.block (Deaf.thens (Deaf.thens (Deaf.block (Deaf.thens (Deaf.body RetM.not_panicked))))))) (fun w_ T_ => (q_load_e (i := (t % 3)) (k := 0) (E := strE) rfl (by kernel_rfl) (by kernel_rfl) T_ (by simp only [List.length_cons, List.length_nil]; omega) (by decide) (by kernel_rfl))) (r7.mono ((((l8.trans l16).trans l17).trans l18).trans ((G18.drew).drew).imm)) ?_
          refine DW.know 76 (.string (nm3 t)) (x := (.string (([(ByteArray.mk #[112]), (ByteArray.mk #[113]), (ByteArray.mk #[114])]).getD (t % 3) strE.dflt))) (by kernel_rfl) (rfl) ?_
          refine DW.take (T := fun _ => True) 10 (.bool (sameS (((fs16.getD k factE.dflt)).t) (nm3 t))) rfl (by kernel_rfl) rfl (by kernel_rfl) (.inl fun _ => trivial) (by kernel_rfl) (Deaf.thens (Deaf.block (Deaf.thens (Deaf.thens (Deaf.block (Deaf.thens (Deaf.body RetM.not_panicked))))))) (fun w_ _ => (by kernel_rfl)) trivial ?_
          refine DW.done (by kernel_rfl) ?_
          refine EX.then_code ?_
          refine CW.cond (sameS (((fs16.getD k factE.dflt)).t) (nm3 t)) (by kernel_rfl) (by kernel_rfl) (fun c23 => ?_) (fun c23 => ?_)
          ·
            skip
            have d24 := sameS_iff.1 c23
            refine CW.region ?_
            refine WL.q (.slice ao (((fs16.take k).filter (fun f : FactD => sameS f.t (nm3 t))).length) co) (by kernel_rfl) rfl (by kernel_rfl) (by kernel_rfl) ?_
            refine WL.q (.slice a17 fs16.length c17) (by kernel_rfl) rfl (by kernel_rfl) (by kernel_rfl) ?_
            refine WL.q (.int .i64 (k : Int)) (by kernel_rfl) rfl (by kernel_rfl) (by kernel_rfl) ?_
            refine WL.q (eptr a17 (k * factE.sz)) (by kernel_rfl) rfl (by kernel_rfl) (q_indexAddr (i := k) (E := factE) (xs := fs16) (e := 43) (c := c17) (k := .i64) (m := fs16.length) rfl rfl (by kernel_rfl) (by kernel_rfl) (by kernel_rfl) (r17.mono (l18.trans ((G18.drew).drew).imm)) (by omega)) ?_
            refine WL.q (.agg #[(.int .i64 (((fs16.getD k factE.dflt)).id)), (.string (((fs16.getD k factE.dflt)).t)), (.slice (((fs16.getD k factE.dflt)).a) (((fs16.getD k factE.dflt)).vals.length) (((fs16.getD k factE.dflt)).c))]) (by kernel_rfl) rfl (by kernel_rfl) (q_val (q_loadAgg_e (i := k) (E := factE) rfl (by kernel_rfl) (by kernel_rfl) (r17.mono (l18.trans ((G18.drew).drew).imm)) (by omega)) (by kernel_rfl)) ?_
            refine WL.ex (by kernel_rfl) rfl (by kernel_rfl) (q_newF (ob := (.cells #[(.int .i64 (((fs16.getD k factE.dflt)).id)), (.string (((fs16.getD k factE.dflt)).t)), (.slice (((fs16.getD k factE.dflt)).a) (((fs16.getD k factE.dflt)).vals.length) (((fs16.getD k factE.dflt)).c))] 43 (0, 0))) ((G18.drew).drew) (fun b_ => .slice (some ⟨b_, 0, none⟩) 1 1) (fun u_ => by kernel_rfl)) ?_
            rintro _ w25 ⟨b25, h25, rfl, l25, G25, hb25, L25⟩
            have r26 : RS h25 factE (some ⟨b25, 0, none⟩) [(FactD.mk (((fs16.getD k factE.dflt)).id) (((fs16.getD k factE.dflt)).t) (((fs16.getD k factE.dflt)).a) (((fs16.getD k factE.dflt)).vals) (((fs16.getD k factE.dflt)).c))] := RS.blk hb25 (by kernel_rfl)
            have g26 : ∀ e_ ∈ [(FactD.mk (((fs16.getD k factE.dflt)).id) (((fs16.getD k factE.dflt)).t) (((fs16.getD k factE.dflt)).a) (((fs16.getD k factE.dflt)).vals) (((fs16.getD k factE.dflt)).c))], factG h25 e_ := (all_one (show factG h25 (FactD.mk (((fs16.getD k factE.dflt)).id) (((fs16.getD k factE.dflt)).t) (((fs16.getD k factE.dflt)).a) (((fs16.getD k factE.dflt)).vals) (((fs16.getD k factE.dflt)).c)) from ((gg16 _ (getD_mem (by omega))).mono ((l17.trans l18).trans l25))))
            refine WL.ex (by kernel_rfl) rfl (by kernel_rfl) (q_app (e := 43) (bytes := 48) (cap := co) (c2 := 1) (M0 := M0_8) (xs := ((fs16.take k).filter (fun f : FactD => sameS f.t (nm3 t)))) (ys := ([(FactD.mk (((fs16.getD k factE.dflt)).id) (((fs16.getD k factE.dflt)).t) (((fs16.getD k factE.dflt)).a) (((fs16.getD k factE.dflt)).vals) (((fs16.getD k factE.dflt)).c))])) G25 o_want18 (r26.mono ((PH.le_refl _).trans G25.imm)) rfl (by kernel_rfl) (by kernel_rfl) (by kernel_rfl) (by first | (simp only [maxLen, List.length_append, List.length_cons, List.length_nil]; omega) | (simp only [maxLen]; omega)) (by first | omega | (simp only [List.length_append, List.length_cons, List.length_nil]; omega))) ?_
            rintro _ w27 ⟨a27, k27, M27, rfl, G27, o27, z27⟩
            have g27 : ∀ e_ ∈ (((fs16.take k).filter (fun f : FactD => sameS f.t (nm3 t))) ++ ([(FactD.mk (((fs16.getD k factE.dflt)).id) (((fs16.getD k factE.dflt)).t) (((fs16.getD k factE.dflt)).a) (((fs16.getD k factE.dflt)).vals) (((fs16.getD k factE.dflt)).c))])), factG h25 e_ := all_app (all_up @factG.mono l25 g_want18) g26
            refine WL.q (.slice a27 ((((fs16.take k).filter (fun f : FactD => sameS f.t (nm3 t))) ++ ([(FactD.mk (((fs16.getD k factE.dflt)).id) (((fs16.getD k factE.dflt)).t) (((fs16.getD k factE.dflt)).a) (((fs16.getD k factE.dflt)).vals) (((fs16.getD k factE.dflt)).c))])).length) k27) (by kernel_rfl) rfl (by kernel_rfl) (by kernel_rfl) ?_
            refine WL.nil ?_
            refine EX.in_block ?_
            refine EX.then_code ?_
            refine CW.region ?_
            refine WL.q (.int .i64 (k : Int)) (by kernel_rfl) rfl (by kernel_rfl) (by kernel_rfl) ?_
            refine WL.q (.int .i64 ((k + 1 : Nat) : Int)) (by kernel_rfl) rfl (by kernel_rfl) (q_int (x := IntKind.i64.wrap ((k : Int) + 1)) (by kernel_rfl) (wrap_to (by omega) (by omega) (by omega))) ?_
            refine WL.q (.int .i64 ((k + 1 : Nat) : Int)) (by kernel_rfl) rfl (by kernel_rfl) (by kernel_rfl) ?_
            refine WL.nil ?_
            exact EX.then_loop ⟨k + 1, a27, k27⟩ ⟨(by kernel_rfl), (by kernel_rfl), (by kernel_rfl), (lk_val (x := (.slice a27 ((((fs16.take k).filter (fun f : FactD => sameS f.t (nm3 t))) ++ ([(FactD.mk (((fs16.getD k factE.dflt)).id) (((fs16.getD k factE.dflt)).t) (((fs16.getD k factE.dflt)).a) (((fs16.getD k factE.dflt)).vals) (((fs16.getD k factE.dflt)).c))])).length) k27)) (by kernel_rfl) (by first | (rw [want_yes (p := (fun f : FactD => sameS f.t (nm3 t))) (k := k) (by omega) c23]; done) | (rw [← want_yes (p := (fun f : FactD => sameS f.t (nm3 t))) (k := k) (by omega) c23]; done) | (simp only [want_yes (p := (fun f : FactD => sameS f.t (nm3 t))) (k := k) (by omega) c23]; done))), (by kernel_rfl), (lk_int (x := ((k + 1 : Nat) : Int)) (by kernel_rfl) (by first | omega | (dsimp only; done) | (dsimp only; omega))), trivial⟩ ⟨h25, M27, (l18.trans l25), G27, (Own.cast o27 (want_yes (p := (fun f : FactD => sameS f.t (nm3 t))) (k := k) (by omega) c23)), (all_cast g27 (want_yes (p := (fun f : FactD => sameS f.t (nm3 t))) (k := k) (by omega) c23)), (by first | omega | assumption | (dsimp only [List.length_nil, List.length_append, List.length_cons]; omega))⟩ (by first | omega | (dsimp only; omega))
          ·
            skip
            have d28 := sameS_ne c23
            refine CW.skip ?_
            refine EX.in_block ?_
            refine EX.then_code ?_
            refine CW.region ?_
            refine WL.q (.int .i64 (k : Int)) (by kernel_rfl) rfl (by kernel_rfl) (by kernel_rfl) ?_
            refine WL.q (.int .i64 ((k + 1 : Nat) : Int)) (by kernel_rfl) rfl (by kernel_rfl) (q_int (x := IntKind.i64.wrap ((k : Int) + 1)) (by kernel_rfl) (wrap_to (by omega) (by omega) (by omega))) ?_
            refine WL.q (.int .i64 ((k + 1 : Nat) : Int)) (by kernel_rfl) rfl (by kernel_rfl) (by kernel_rfl) ?_
            refine WL.nil ?_
            exact EX.then_loop ⟨k + 1, ao, co⟩ ⟨(by kernel_rfl), (by kernel_rfl), (by kernel_rfl), (lk_val (x := (.slice ao (((fs16.take k).filter (fun f : FactD => sameS f.t (nm3 t))).length) co)) (by kernel_rfl) (by first | (rw [want_no (p := (fun f : FactD => sameS f.t (nm3 t))) (k := k) (by omega) c23]; done) | (rw [← want_no (p := (fun f : FactD => sameS f.t (nm3 t))) (k := k) (by omega) c23]; done) | (simp only [want_no (p := (fun f : FactD => sameS f.t (nm3 t))) (k := k) (by omega) c23]; done))), (by kernel_rfl), (lk_int (x := ((k + 1 : Nat) : Int)) (by kernel_rfl) (by first | omega | (dsimp only; done) | (dsimp only; omega))), trivial⟩ ⟨h18, M0_18, l18, ((G18.drew).drew), (Own.cast o_want18 (want_no (p := (fun f : FactD => sameS f.t (nm3 t))) (k := k) (by omega) c23)), (all_cast g_want18 (want_no (p := (fun f : FactD => sameS f.t (nm3 t))) (k := k) (by omega) c23)), (by first | omega | assumption | (dsimp only [List.length_nil, List.length_append, List.length_cons]; omega))⟩ (by first | omega | (dsimp only; omega))
        ·
          skip
          have d29 := of_decide_eq_false c21
          refine DW.know 53 (.bool false) (x := .bool (decide ((k : Int) > 0))) (by kernel_rfl) (congrArg Value.bool c21) ?_
          refine DW.skip 3 rfl (by kernel_rfl) rfl (by kernel_rfl) (by kernel_rfl) (Deaf.thens (Deaf.thens (Deaf.block (Deaf.thens (Deaf.thens (Deaf.block (Deaf.thens (Deaf.body RetM.not_panicked)))))))) ?_
          refine DW.skip 4 rfl (by kernel_rfl) rfl (by kernel_rfl) (by kernel_rfl) (Deaf.thens (Deaf.thens (Deaf.block (Deaf.thens (Deaf.thens (Deaf.block (Deaf.thens (Deaf.body RetM.not_panicked)))))))) ?_
          refine DW.skip 5 rfl (by kernel_rfl) rfl (by kernel_rfl) (by kernel_rfl) (Deaf.thens (Deaf.thens (Deaf.block (Deaf.thens (Deaf.thens (Deaf.block (Deaf.thens (Deaf.body RetM.not_panicked)))))))) ?_
          refine DW.skip 6 rfl (by kernel_rfl) rfl (by kernel_rfl) (by kernel_rfl) (Deaf.thens (Deaf.thens (Deaf.block (Deaf.thens (Deaf.thens (Deaf.block (Deaf.thens (Deaf.body RetM.not_panicked)))))))) ?_
          refine DW.skip 7 rfl (by kernel_rfl) rfl (by kernel_rfl) (by kernel_rfl) (Deaf.thens (Deaf.thens (Deaf.block (Deaf.thens (Deaf.thens (Deaf.block (Deaf.thens (Deaf.body RetM.not_panicked)))))))) ?_
          refine DW.skip 8 rfl (by kernel_rfl) rfl (by kernel_rfl) (by kernel_rfl) (Deaf.thens (Deaf.thens (Deaf.block (Deaf.thens (Deaf.thens (Deaf.block (Deaf.thens (Deaf.body RetM.not_panicked)))))))) ?_
          refine DW.skip 9 rfl (by kernel_rfl) rfl (by kernel_rfl) (by kernel_rfl) (Deaf.thens (Deaf.thens (Deaf.block (Deaf.thens (Deaf.thens (Deaf.block (Deaf.thens (Deaf.body RetM.not_panicked)))))))) ?_
          refine DW.skip 10 rfl (by kernel_rfl) rfl (by kernel_rfl) (by kernel_rfl) (Deaf.thens (Deaf.thens (Deaf.block (Deaf.thens (Deaf.thens (Deaf.block (Deaf.thens (Deaf.body RetM.not_panicked)))))))) ?_
          refine DW.skip 11 rfl (by kernel_rfl) rfl (by kernel_rfl) (by kernel_rfl) (Deaf.thens (Deaf.thens (Deaf.block (Deaf.thens (Deaf.thens (Deaf.block (Deaf.thens (Deaf.body RetM.not_panicked)))))))) ?_
          refine DW.skip 12 rfl (by kernel_rfl) rfl (by kernel_rfl) (by kernel_rfl) (Deaf.thens (Deaf.thens (Deaf.block (Deaf.thens (Deaf.thens (Deaf.block (Deaf.thens (Deaf.body RetM.not_panicked)))))))) ?_
          refine DW.skip 13 rfl (by kernel_rfl) rfl (by kernel_rfl) (by kernel_rfl) (Deaf.thens (Deaf.thens (Deaf.block (Deaf.thens (Deaf.thens (Deaf.block (Deaf.thens (Deaf.body RetM.not_panicked)))))))) ?_
          refine DW.skip 14 rfl (by kernel_rfl) rfl (by kernel_rfl) (by kernel_rfl) (Deaf.thens (Deaf.thens (Deaf.block (Deaf.thens (Deaf.thens (Deaf.block (Deaf.thens (Deaf.body RetM.not_panicked)))))))) ?_
          refine DW.take (T := fun _ => True) 15 (.bool false) rfl (by kernel_rfl) rfl (by kernel_rfl) (.inl fun _ => trivial) (by kernel_rfl) (Deaf.thens (Deaf.thens (Deaf.block (Deaf.thens (Deaf.thens (Deaf.block (Deaf.thens (Deaf.body RetM.not_panicked)))))))) (fun w_ _ => (by kernel_rfl)) trivial ?_
          refine DW.done (by kernel_rfl) ?_
          refine EX.then_code ?_
          refine CW.cond_f (by kernel_rfl) (by kernel_rfl) ?_
          refine CW.skip ?_
          refine EX.then_code ?_
          refine CW.seq ?_
          refine CW.draw (by kernel_rfl) [(4, fun w_ => RS (PH.all w_) factE a17 fs16), (9, fun w_ => RS (PH.all w_) strE (some ⟨b6, 0, none⟩) ([(ByteArray.mk #[112]), (ByteArray.mk #[113]), (ByteArray.mk #[114])]))] ?_
          refine DW.take (T := fun _ => True) 0 (.slice a17 fs16.length c17) rfl (by kernel_rfl) rfl (by kernel_rfl) (.inl fun _ => trivial) (by kernel_rfl) (Deaf.thens (Deaf.block (Deaf.thens (Deaf.thens (Deaf.block (Deaf.thens (Deaf.body RetM.not_panicked))))))) (fun w_ _ => (by kernel_rfl)) trivial ?_
          refine DW.take (T := fun _ => True) 1 (.int .i64 (k : Int)) rfl (by kernel_rfl) rfl (by kernel_rfl) (.inl fun _ => trivial) (by kernel_rfl) (Deaf.thens (Deaf.block (Deaf.thens (Deaf.thens (Deaf.block (Deaf.thens (Deaf.body RetM.not_panicked))))))) (fun w_ _ => (by kernel_rfl)) trivial ?_
          refine DW.take (T := fun _ => True) 2 (eptr a17 (k * factE.sz)) rfl (by kernel_rfl) rfl (by kernel_rfl) (.inl fun _ => trivial) (by kernel_rfl) (Deaf.thens (Deaf.block (Deaf.thens (Deaf.thens (Deaf.block (Deaf.thens (Deaf.body RetM.not_panicked))))))) (fun w_ _ => (q_indexAddr (i := k) (E := factE) (xs := fs16) (e := 43) (c := c17) (k := .i64) (m := fs16.length) rfl rfl (by kernel_rfl) (by kernel_rfl) (by kernel_rfl) (r17.mono (l18.trans ((G18.drew).drew).imm)) (by omega))) trivial ?_
          refine DW.take (T := fun _ => True) 3 (eptr a17 (k * factE.sz + 1)) rfl (by kernel_rfl) rfl (by kernel_rfl) (.inl fun _ => trivial) (by kernel_rfl) (Deaf.thens (Deaf.block (Deaf.thens (Deaf.thens (Deaf.block (Deaf.thens (Deaf.body RetM.not_panicked))))))) (fun w_ _ => (q_fieldAddr_e (i := k) (k := k * factE.sz) (off := 1) rfl (by kernel_rfl) (by kernel_rfl) (r17.mono (l18.trans ((G18.drew).drew).imm)) (by omega))) trivial ?_
          refine DW.take (T := fun w_ => RS (PH.all w_) factE a17 fs16) 4 (.string (((fs16.getD k factE.dflt)).t)) rfl (by kernel_rfl) rfl (by kernel_rfl) (.inr (by simp only [List.mem_cons, true_or, or_true])) (by kernel_rfl) (Deaf.thens (Deaf.block (Deaf.thens (Deaf.thens (Deaf.block (Deaf.thens (Deaf.body RetM.not_panicked))))))) (fun w_ T_ => (q_load_e (i := k) (k := 1) (E := factE) rfl (by kernel_rfl) (by kernel_rfl) T_ (by omega) (by decide) (by kernel_rfl))) (r17.mono (l18.trans ((G18.drew).drew).imm)) ?_
          refine DW.take (T := fun _ => True) 5 (.slice (some ⟨b6, 0, none⟩) 3 3) rfl (by kernel_rfl) rfl (by kernel_rfl) (.inl fun _ => trivial) (by kernel_rfl) (Deaf.thens (Deaf.block (Deaf.thens (Deaf.thens (Deaf.block (Deaf.thens (Deaf.body RetM.not_panicked))))))) (fun w_ _ => (by kernel_rfl)) trivial ?_
          refine DW.take (T := fun _ => True) 6 (.int .u8 (t : Int)) rfl (by kernel_rfl) rfl (by kernel_rfl) (.inl fun _ => trivial) (by kernel_rfl) (Deaf.thens (Deaf.block (Deaf.thens (Deaf.thens (Deaf.block (Deaf.thens (Deaf.body RetM.not_panicked))))))) (fun w_ _ => (by kernel_rfl)) trivial ?_
          refine DW.take (T := fun _ => True) 7 (.int .u8 ((t % 3 : Nat) : Int)) rfl (by kernel_rfl) rfl (by kernel_rfl) (.inl fun _ => trivial) (by kernel_rfl) (Deaf.thens (Deaf.block (Deaf.thens (Deaf.thens (Deaf.block (Deaf.thens (Deaf.body RetM.not_panicked))))))) (fun w_ _ => (q_rem (n := t) (m := 3) rfl (by kernel_rfl) (by kernel_rfl) (by omega))) trivial ?_
          refine DW.take (T := fun _ => True) 8 (eptr (some ⟨b6, 0, none⟩) ((t % 3) * strE.sz)) rfl (by kernel_rfl) rfl (by kernel_rfl) (.inl fun _ => trivial) (by kernel_rfl) (Deaf.thens (Deaf.block (Deaf.thens (Deaf.thens (Deaf.block (Deaf.thens (Deaf.body RetM.not_panicked))))))) (fun w_ _ => (q_indexAddr (i := (t % 3)) (E := strE) (xs := ([(ByteArray.mk #[112]), (ByteArray.mk #[113]), (ByteArray.mk #[114])])) (e := 9) (c := 3) (k := .u8) (m := 3) rfl rfl (by kernel_rfl) (by kernel_rfl) (by kernel_rfl) (r7.mono ((((l8.trans l16).trans l17).trans l18).trans ((G18.drew).drew).imm)) (by simp only [List.length_cons, List.length_nil]; omega))) trivial ?_
          refine DW.take (T := fun w_ => RS (PH.all w_) strE (some ⟨b6, 0, none⟩) ([(ByteArray.mk #[112]), (ByteArray.mk #[113]), (ByteArray.mk #[114])])) 9 (.string (([(ByteArray.mk #[112]), (ByteArray.mk #[113]), (ByteArray.mk #[114])]).getD (t % 3) strE.dflt)) rfl (by kernel_rfl) rfl (by kernel_rfl) (.inr (by simp only [List.mem_cons, true_or, or_true])) (by kernel_rfl) (Deaf.thens (Deaf.block (Deaf.thens (Deaf.thens (Deaf.block (Deaf.thens (Deaf.body RetM.not_panicked))))))) (fun w_ T_ => (q_load_e (i := (t % 3)) (k := 0) (E := strE) rfl (by kernel_rfl) (by kernel_rfl) T_ (by simp only [List.length_cons, List.length_nil]; omega) (by decide) (by kernel_rfl))) (r7.mono ((((l8.trans l16).trans l17).trans l18).trans ((G18.drew).drew).imm)) ?_
          refine DW.know 76 (.string (nm3 t)) (x := (.string (([(ByteArray.mk #[112]), (ByteArray.mk #[113]), (ByteArray.mk #[114])]).getD (t % 3) strE.dflt))) (by kernel_rfl) (rfl) ?_
          refine DW.take (T := fun _ => True) 10 (.bool (sameS (((fs16.getD k factE.dflt)).t) (nm3 t))) rfl (by kernel_rfl) rfl (by kernel_rfl) (.inl fun _ => trivial) (by kernel_rfl) (Deaf.thens (Deaf.block (Deaf.thens (Deaf.thens (Deaf.block (Deaf.thens (Deaf.body RetM.not_panicked))))))) (fun w_ _ => (by kernel_rfl)) trivial ?_
          refine DW.done (by kernel_rfl) ?_
          refine EX.then_code ?_
          refine CW.cond (sameS (((fs16.getD k factE.dflt)).t) (nm3 t)) (by kernel_rfl) (by kernel_rfl) (fun c30 => ?_) (fun c30 => ?_)
          ·
            skip
            have d31 := sameS_iff.1 c30
            refine CW.region ?_
            refine WL.q (.slice ao (((fs16.take k).filter (fun f : FactD => sameS f.t (nm3 t))).length) co) (by kernel_rfl) rfl (by kernel_rfl) (by kernel_rfl) ?_
            refine WL.q (.slice a17 fs16.length c17) (by kernel_rfl) rfl (by kernel_rfl) (by kernel_rfl) ?_
            refine WL.q (.int .i64 (k : Int)) (by kernel_rfl) rfl (by kernel_rfl) (by kernel_rfl) ?_
            refine WL.q (eptr a17 (k * factE.sz)) (by kernel_rfl) rfl (by kernel_rfl) (q_indexAddr (i := k) (E := factE) (xs := fs16) (e := 43) (c := c17) (k := .i64) (m := fs16.length) rfl rfl (by kernel_rfl) (by kernel_rfl) (by kernel_rfl) (r17.mono (l18.trans ((G18.drew).drew).imm)) (by omega)) ?_
            refine WL.q (.agg #[(.int .i64 (((fs16.getD k factE.dflt)).id)), (.string (((fs16.getD k factE.dflt)).t)), (.slice (((fs16.getD k factE.dflt)).a) (((fs16.getD k factE.dflt)).vals.length) (((fs16.getD k factE.dflt)).c))]) (by kernel_rfl) rfl (by kernel_rfl) (q_val (q_loadAgg_e (i := k) (E := factE) rfl (by kernel_rfl) (by kernel_rfl) (r17.mono (l18.trans ((G18.drew).drew).imm)) (by omega)) (by kernel_rfl)) ?_
            refine WL.ex (by kernel_rfl) rfl (by kernel_rfl) (q_newF (ob := (.cells #[(.int .i64 (((fs16.getD k factE.dflt)).id)), (.string (((fs16.getD k factE.dflt)).t)), (.slice (((fs16.getD k factE.dflt)).a) (((fs16.getD k factE.dflt)).vals.length) (((fs16.getD k factE.dflt)).c))] 43 (0, 0))) ((G18.drew).drew) (fun b_ => .slice (some ⟨b_, 0, none⟩) 1 1) (fun u_ => by kernel_rfl)) ?_
            rintro _ w32 ⟨b32, h32, rfl, l32, G32, hb32, L32⟩
            have r33 : RS h32 factE (some ⟨b32, 0, none⟩) [(FactD.mk (((fs16.getD k factE.dflt)).id) (((fs16.getD k factE.dflt)).t) (((fs16.getD k factE.dflt)).a) (((fs16.getD k factE.dflt)).vals) (((fs16.getD k factE.dflt)).c))] := RS.blk hb32 (by kernel_rfl)
            have g33 : ∀ e_ ∈ [(FactD.mk (((fs16.getD k factE.dflt)).id) (((fs16.getD k factE.dflt)).t) (((fs16.getD k factE.dflt)).a) (((fs16.getD k factE.dflt)).vals) (((fs16.getD k factE.dflt)).c))], factG h32 e_ := (all_one (show factG h32 (FactD.mk (((fs16.getD k factE.dflt)).id) (((fs16.getD k factE.dflt)).t) (((fs16.getD k factE.dflt)).a) (((fs16.getD k factE.dflt)).vals) (((fs16.getD k factE.dflt)).c)) from ((gg16 _ (getD_mem (by omega))).mono ((l17.trans l18).trans l32))))
            refine WL.ex (by kernel_rfl) rfl (by kernel_rfl) (q_app (e := 43) (bytes := 48) (cap := co) (c2 := 1) (M0 := M0_8) (xs := ((fs16.take k).filter (fun f : FactD => sameS f.t (nm3 t)))) (ys := ([(FactD.mk (((fs16.getD k factE.dflt)).id) (((fs16.getD k factE.dflt)).t) (((fs16.getD k factE.dflt)).a) (((fs16.getD k factE.dflt)).vals) (((fs16.getD k factE.dflt)).c))])) G32 o_want18 (r33.mono ((PH.le_refl _).trans G32.imm)) rfl (by kernel_rfl) (by kernel_rfl) (by kernel_rfl) (by first | (simp only [maxLen, List.length_append, List.length_cons, List.length_nil]; omega) | (simp only [maxLen]; omega)) (by first | omega | (simp only [List.length_append, List.length_cons, List.length_nil]; omega))) ?_
            rintro _ w34 ⟨a34, k34, M34, rfl, G34, o34, z34⟩
            have g34 : ∀ e_ ∈ (((fs16.take k).filter (fun f : FactD => sameS f.t (nm3 t))) ++ ([(FactD.mk (((fs16.getD k factE.dflt)).id) (((fs16.getD k factE.dflt)).t) (((fs16.getD k factE.dflt)).a) (((fs16.getD k factE.dflt)).vals) (((fs16.getD k factE.dflt)).c))])), factG h32 e_ := all_app (all_up @factG.mono l32 g_want18) g33
            refine WL.q (.slice a34 ((((fs16.take k).filter (fun f : FactD => sameS f.t (nm3 t))) ++ ([(FactD.mk (((fs16.getD k factE.dflt)).id) (((fs16.getD k factE.dflt)).t) (((fs16.getD k factE.dflt)).a) (((fs16.getD k factE.dflt)).vals) (((fs16.getD k factE.dflt)).c))])).length) k34) (by kernel_rfl) rfl (by kernel_rfl) (by kernel_rfl) ?_
            refine WL.nil ?_
            refine EX.in_block ?_
            refine EX.then_code ?_
            refine CW.region ?_
            refine WL.q (.int .i64 (k : Int)) (by kernel_rfl) rfl (by kernel_rfl) (by kernel_rfl) ?_
            refine WL.q (.int .i64 ((k + 1 : Nat) : Int)) (by kernel_rfl) rfl (by kernel_rfl) (q_int (x := IntKind.i64.wrap ((k : Int) + 1)) (by kernel_rfl) (wrap_to (by omega) (by omega) (by omega))) ?_
            refine WL.q (.int .i64 ((k + 1 : Nat) : Int)) (by kernel_rfl) rfl (by kernel_rfl) (by kernel_rfl) ?_
            refine WL.nil ?_
            exact EX.then_loop ⟨k + 1, a34, k34⟩ ⟨(by kernel_rfl), (by kernel_rfl), (by kernel_rfl), (lk_val (x := (.slice a34 ((((fs16.take k).filter (fun f : FactD => sameS f.t (nm3 t))) ++ ([(FactD.mk (((fs16.getD k factE.dflt)).id) (((fs16.getD k factE.dflt)).t) (((fs16.getD k factE.dflt)).a) (((fs16.getD k factE.dflt)).vals) (((fs16.getD k factE.dflt)).c))])).length) k34)) (by kernel_rfl) (by first | (rw [want_yes (p := (fun f : FactD => sameS f.t (nm3 t))) (k := k) (by omega) c30]; done) | (rw [← want_yes (p := (fun f : FactD => sameS f.t (nm3 t))) (k := k) (by omega) c30]; done) | (simp only [want_yes (p := (fun f : FactD => sameS f.t (nm3 t))) (k := k) (by omega) c30]; done))), (by kernel_rfl), (lk_int (x := ((k + 1 : Nat) : Int)) (by kernel_rfl) (by first | omega | (dsimp only; done) | (dsimp only; omega))), trivial⟩ ⟨h32, M34, (l18.trans l32), G34, (Own.cast o34 (want_yes (p := (fun f : FactD => sameS f.t (nm3 t))) (k := k) (by omega) c30)), (all_cast g34 (want_yes (p := (fun f : FactD => sameS f.t (nm3 t))) (k := k) (by omega) c30)), (by first | omega | assumption | (dsimp only [List.length_nil, List.length_append, List.length_cons]; omega))⟩ (by first | omega | (dsimp only; omega))
          ·
            skip
            have d35 := sameS_ne c30
            refine CW.skip ?_
            refine EX.in_block ?_
            refine EX.then_code ?_
            refine CW.region ?_
            refine WL.q (.int .i64 (k : Int)) (by kernel_rfl) rfl (by kernel_rfl) (by kernel_rfl) ?_
            refine WL.q (.int .i64 ((k + 1 : Nat) : Int)) (by kernel_rfl) rfl (by kernel_rfl) (q_int (x := IntKind.i64.wrap ((k : Int) + 1)) (by kernel_rfl) (wrap_to (by omega) (by omega) (by omega))) ?_
            refine WL.q (.int .i64 ((k + 1 : Nat) : Int)) (by kernel_rfl) rfl (by kernel_rfl) (by kernel_rfl) ?_
            refine WL.nil ?_
            exact EX.then_loop ⟨k + 1, ao, co⟩ ⟨(by kernel_rfl), (by kernel_rfl), (by kernel_rfl), (lk_val (x := (.slice ao (((fs16.take k).filter (fun f : FactD => sameS f.t (nm3 t))).length) co)) (by kernel_rfl) (by first | (rw [want_no (p := (fun f : FactD => sameS f.t (nm3 t))) (k := k) (by omega) c30]; done) | (rw [← want_no (p := (fun f : FactD => sameS f.t (nm3 t))) (k := k) (by omega) c30]; done) | (simp only [want_no (p := (fun f : FactD => sameS f.t (nm3 t))) (k := k) (by omega) c30]; done))), (by kernel_rfl), (lk_int (x := ((k + 1 : Nat) : Int)) (by kernel_rfl) (by first | omega | (dsimp only; done) | (dsimp only; omega))), trivial⟩ ⟨h18, M0_18, l18, ((G18.drew).drew), (Own.cast o_want18 (want_no (p := (fun f : FactD => sameS f.t (nm3 t))) (k := k) (by omega) c30)), (all_cast g_want18 (want_no (p := (fun f : FactD => sameS f.t (nm3 t))) (k := k) (by omega) c30)), (by first | omega | assumption | (dsimp only [List.length_nil, List.length_append, List.length_cons]; omega))⟩ (by first | omega | (dsimp only; omega))
      ·
        skip
        have d36 := of_decide_eq_false c19
        refine CW.exit ?_
        refine EX.exit_then ?_
        refine EX.exit_then ?_
        refine EX.exit_here ?_
        refine EX.then_code ?_
        refine CW.seq ?_
        refine CW.region ?_
        refine WL.q (.pointer (some ⟨p5, 0, none⟩)) (by kernel_rfl) rfl (by kernel_rfl) (by kernel_rfl) ?_
        refine WL.q (.slice (some ⟨b6, 0, none⟩) 3 3) (by kernel_rfl) rfl (by kernel_rfl) (by kernel_rfl) ?_
        refine WL.q (.int .u8 (t : Int)) (by kernel_rfl) rfl (by kernel_rfl) (by kernel_rfl) ?_
        refine WL.q (.int .u8 ((t % 3 : Nat) : Int)) (by kernel_rfl) rfl (by kernel_rfl) (q_rem (n := t) (m := 3) rfl (by kernel_rfl) (by kernel_rfl) (by omega)) ?_
        refine WL.q (eptr (some ⟨b6, 0, none⟩) ((t % 3) * strE.sz)) (by kernel_rfl) rfl (by kernel_rfl) (q_indexAddr (i := (t % 3)) (E := strE) (xs := ([(ByteArray.mk #[112]), (ByteArray.mk #[113]), (ByteArray.mk #[114])])) (e := 9) (c := 3) (k := .u8) (m := 3) rfl rfl (by kernel_rfl) (by kernel_rfl) (by kernel_rfl) (r7.mono ((((l8.trans l16).trans l17).trans l18).trans G18.imm)) (by simp only [List.length_cons, List.length_nil]; omega)) ?_
        refine WL.q (.string (([(ByteArray.mk #[112]), (ByteArray.mk #[113]), (ByteArray.mk #[114])]).getD (t % 3) strE.dflt)) (by kernel_rfl) rfl (by kernel_rfl) (q_load_e (i := (t % 3)) (k := 0) (E := strE) rfl (by kernel_rfl) (by kernel_rfl) (r7.mono ((((l8.trans l16).trans l17).trans l18).trans G18.imm)) (by simp only [List.length_cons, List.length_nil]; omega) (by decide) (by kernel_rfl)) ?_
        refine WL.know 90 (.string (nm3 t)) (x := (.string (([(ByteArray.mk #[112]), (ByteArray.mk #[113]), (ByteArray.mk #[114])]).getD (t % 3) strE.dflt))) (by kernel_rfl) (rfl) ?_
        refine WL.call (by kernel_rfl) rfl (by kernel_rfl) (by kernel_rfl) (ofA G18 (MemA.mono ((l16.trans l17).trans l18) o_mem8) o_want18.le (nm3 t)) (Ret.elim ?_)
        rintro w37 h37 _ l37 G37 ⟨a37, fs37, rfl, r37, gg37, hd37⟩
        have hdl37 := congrArg List.length hd37
        rw [List.length_map] at hdl37
        refine WL.call (by kernel_rfl) rfl (by kernel_rfl) (by kernel_rfl) (ofL_spec (fs := fs37) (c := fs37.length) G37 (r37.mono (PH.le_refl _)) gg37 (by have q_ := List.length_filter_le (fun d : Dat => sameS d.2.1 (nm3 t)) ds; first | omega | (rw [hdl37]; exact Nat.le_trans q_ (by omega)))) (Ret.elim ?_)
        rintro w38 h38 _ l38 G38 ⟨a38, c38, rfl, r38⟩
        refine WL.q (.slice ao (((fs16.take k).filter (fun f : FactD => sameS f.t (nm3 t))).length) co) (by kernel_rfl) rfl (by kernel_rfl) (by kernel_rfl) ?_
        obtain rfl : k = fs16.length := by omega
        obtain ⟨h39, l39, G39, r39⟩ := o_want18.freeze G38
        have hol : fs37.length ≤ 1000 := by have q_ := List.length_filter_le (fun d : Dat => sameS d.2.1 (nm3 t)) ds; first | omega | (rw [hdl37]; exact Nat.le_trans q_ hfl)
        refine WL.call (by kernel_rfl) rfl (by kernel_rfl) (by kernel_rfl) (sameF_spec (xs := fs37) (ys := ((fs16.take fs16.length).filter (fun f : FactD => sameS f.t (nm3 t)))) (cx := c38) (cy := co) G39 (r38.mono l39) (all_up @factG.mono (l38.trans l39) gg37) (r39.mono (PH.le_refl _)) (all_up @factG.mono ((l37.trans l38).trans l39) g_want18) (by omega) (fun f hf => by have q_ := (o_mem8.ok.ok _ ((List.mem_filter.1 (hd37 ▸ List.mem_map.2 ⟨f, hf, rfl⟩)).1)).2.1; exact Nat.le_trans q_ (by decide))) (Ret.elim ?_)
        rintro w40 h40 _ l40 G40 rfl
        refine WL.know 94 (.bool true) (x := (.bool (sameF fs37 ((fs16.take fs16.length).filter (fun f : FactD => sameS f.t (nm3 t)))))) (by kernel_rfl) (congrArg Value.bool (by unfold sameF; exact decide_eq_true (by rw [List.take_length, filter_dat, hd16, hd37]))) ?_
        refine WL.q (.bool true) (by kernel_rfl) rfl (by kernel_rfl) (by kernel_rfl) ?_
        refine WL.q (.pointer (some ⟨p5, 0, none⟩)) (by kernel_rfl) rfl (by kernel_rfl) (by kernel_rfl) ?_
        refine WL.call (by kernel_rfl) rfl (by kernel_rfl) (by kernel_rfl) (ofA G40 (MemA.mono ((((((l16.trans l17).trans l18).trans l37).trans l38).trans l39).trans l40) o_mem8) (PH.le_refl _) (ByteArray.mk #[110, 111, 110, 101])) (Ret.elim ?_)
        rintro w41 h41 _ l41 G41 ⟨a41, fs41, rfl, r41, gg41, hd41⟩
        have hdl41 := congrArg List.length hd41
        rw [List.length_map] at hdl41
        refine WL.q (.int .i64 (fs41.length : Int)) (by kernel_rfl) rfl (by kernel_rfl) (by kernel_rfl) ?_
        refine WL.know 98 (.int .i64 0) (x := (.int .i64 (fs41.length : Int))) (by kernel_rfl) (congrArg (Value.int .i64) (by rw [hdl41, none_of3 h3]; rfl)) ?_
        refine WL.q (.bool true) (by kernel_rfl) rfl (by kernel_rfl) (by kernel_rfl) ?_
        refine WL.q (.bool true) (by kernel_rfl) rfl (by kernel_rfl) (by kernel_rfl) ?_
        refine WL.q (.bool true) (by kernel_rfl) rfl (by kernel_rfl) (by kernel_rfl) ?_
        refine WL.nil ?_
        refine EX.then_code ?_
        refine CW.ret ?_
        refine EX.ret1 (v := (.bool true)) rfl (by kernel_rfl) ?_
        exact Ret.mk (((((((((((l1.trans l5).trans l6).trans l8).trans l16).trans l17).trans l18).trans l37).trans l38).trans l39).trans l40).trans l41) (G41.drop (Ly.le (Ly.memA h8 p5 ds nx) o_mem8)) rfl
end Go.Proofs
