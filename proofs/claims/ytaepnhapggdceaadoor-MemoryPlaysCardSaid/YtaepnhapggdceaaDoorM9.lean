import Derived.Test.YtaepnhapggdceaaDoorM8
namespace Go.Proofs
open Go Go.Wk
theorem twin_spec {K : Key} {w : World} {h M0 M Mt : PH} (G : Wld K w h M) {p : Nat} {row : List FactD} {next : Int} (A : MemL h p row next M0 Mt) (hM : PH.le Mt M) (T : Tab Tryd.prog h) (R : RowOk row next) :
    Calls Tryd.prog 21 #[.pointer (some ⟨p, 0, none⟩)] w (RetM K h fun h' M' v => ∃ p' fs, v = .pointer (some ⟨p', 0, none⟩) ∧ MemL h' p' fs next M M' ∧ fs.map dat = row.map dat ∧ RowOk fs next) := by
  obtain ⟨bm, am, cm, es, clk, Ma, Mb, Ba, Bb, Oo, mi, gd⟩ := A
  refine enter (l := [(.pointer (some ⟨p, 0, none⟩))]) Tryd.func21 rfl Tryd.ntmps21 (Nat.le_of_ble_eq_true rfl) ?_
  simp only [params]
  refine CW.seq ?_
  refine CW.region ?_
  refine WL.q (.pointer none) (by kernel_rfl) rfl (by kernel_rfl) (by kernel_rfl) ?_
  refine WL.nil ?_
  refine EX.then_code ?_
  refine CW.seq ?_
  refine CW.draw (by kernel_rfl) [(6, fun w_ => PH.all w_ p = some (.cells #[(.slice am row.length cm), .map (some bm), .int .i64 next] 61 (0, 0)))] ?_
  refine DW.take (T := fun _ => True) 0 (.pointer (some ⟨p, 0, none⟩)) rfl (by kernel_rfl) rfl (by kernel_rfl) (.inl fun _ => trivial) (by kernel_rfl) (Deaf.thens (Deaf.body RetM.not_panicked)) (fun w_ _ => (by kernel_rfl)) trivial ?_
  refine DW.take (T := fun _ => True) 3 (.pointer (some ⟨p, 0, none⟩)) rfl (by kernel_rfl) rfl (by kernel_rfl) (.inl fun _ => trivial) (by kernel_rfl) (Deaf.thens (Deaf.body RetM.not_panicked)) (fun w_ _ => (by kernel_rfl)) trivial ?_
  refine DW.take (T := fun _ => True) 4 (.pointer (some ⟨p, 0, none⟩)) rfl (by kernel_rfl) rfl (by kernel_rfl) (.inl fun _ => trivial) (by kernel_rfl) (Deaf.thens (Deaf.body RetM.not_panicked)) (fun w_ _ => (by kernel_rfl)) trivial ?_
  refine DW.take (T := fun _ => True) 5 (.pointer (some ⟨p, 2, none⟩)) rfl (by kernel_rfl) rfl (by kernel_rfl) (.inl fun _ => trivial) (by kernel_rfl) (Deaf.thens (Deaf.body RetM.not_panicked)) (fun w_ _ => (by kernel_rfl)) trivial ?_
  refine DW.take (T := fun w_ => PH.all w_ p = some (.cells #[(.slice am row.length cm), .map (some bm), .int .i64 next] 61 (0, 0))) 6 (.int .i64 next) rfl (by kernel_rfl) rfl (by kernel_rfl) (.inr (by simp only [List.mem_cons, true_or, or_true])) (by kernel_rfl) (Deaf.thens (Deaf.body RetM.not_panicked)) (fun w_ T_ => (q_load (off := 2) rfl (by kernel_rfl) (by kernel_rfl) T_ (by kernel_rfl))) ((G.drew).own _ _ (((Bb.le.trans Oo.le).trans hM) _ _ Ba.at)) ?_
  refine DW.two 1 2 (by kernel_rfl) ?_ ?_
  ·
    skip
    refine DOp.call rfl (by kernel_rfl) rfl (by kernel_rfl) (by kernel_rfl) (allO_spec (G.drew) ⟨bm, am, cm, es, clk, Ma, Mb, Ba, Bb, Oo, mi, gd⟩ hM R) (RetM.elimD (fun w1 h1 M1 v_ l1 G1 p_ => by obtain ⟨ax, cx, fs, N1, rfl, I1, O1, hd⟩ := p_; exact ⟨.inr (fun _ => (G1.own _ _ ((((Bb.le.trans Oo.le).trans hM).trans ((Ly.le (Ly.innL fs) I1).trans O1.le)) _ _ Ba.at))), trivial⟩) ?_)
    rintro w1 h1 M1 _ l1 G1 ⟨ax, cx, fs, N1, rfl, I1, O1, hd⟩
    refine DW.only 2 (by kernel_rfl) ?_
    refine DOp.ex rfl (by kernel_rfl) rfl (by kernel_rfl) (q_makeMap (d := .string) (ke := strK) G1 strK_key strK_inj (fun u_ => by kernel_rfl)) (fun v_ w2 p_ => by obtain ⟨b2, M2, es2, ck2, rfl, G2, B2, m2, L2⟩ := p_; exact ⟨.inr (fun _ => (G2.own _ _ ((((Bb.le.trans Oo.le).trans hM).trans (((Ly.le (Ly.innL fs) I1).trans O1.le).trans B2.le)) _ _ Ba.at))), trivial⟩) ?_
    rintro _ w2 ⟨b2, M2, es2, ck2, rfl, G2, B2, m2, L2⟩
    refine DW.take (T := fun _ => True) 7 (.agg #[(.slice ax fs.length fs.length), (.map (some b2)), (.int .i64 next)]) rfl (by kernel_rfl) rfl (by kernel_rfl) (.inl fun _ => trivial) (by kernel_rfl) (Deaf.thens (Deaf.body RetM.not_panicked)) (fun w_ _ => (by kernel_rfl)) trivial ?_
    refine DW.only 8 (by kernel_rfl) ?_
    refine DOp.ex rfl (by kernel_rfl) rfl (by kernel_rfl) (q_newB (ob := (.cells #[(.slice ax fs.length fs.length), (.map (some b2)), (.int .i64 next)] 61 (0, 0))) G2 (fun b_ => .pointer (some ⟨b_, 0, none⟩)) (fun u_ => by kernel_rfl)) (fun v_ w3 p_ => by obtain ⟨b3, M3, rfl, G3, B3, L3⟩ := p_; exact ⟨.inr (fun _ => (G3.own _ _ ((((Bb.le.trans Oo.le).trans hM).trans ((((Ly.le (Ly.innL fs) I1).trans O1.le).trans B2.le).trans B3.le)) _ _ Ba.at))), trivial⟩) ?_
    rintro _ w3 ⟨b3, M3, rfl, G3, B3, L3⟩
    refine DW.take (T := fun _ => True) 9 (.pointer (some ⟨b3, 0, none⟩)) rfl (by kernel_rfl) rfl (by kernel_rfl) (.inl fun _ => trivial) (by kernel_rfl) (Deaf.thens (Deaf.body RetM.not_panicked)) (fun w_ _ => (by kernel_rfl)) trivial ?_
    refine DW.done (by kernel_rfl) ?_
    refine EX.then_code ?_
    refine CW.seq ?_
    refine CW.seq ?_
    refine CW.region ?_
    refine WL.q (.pointer (some ⟨b3, 0, none⟩)) (by kernel_rfl) rfl (by kernel_rfl) (by kernel_rfl) ?_
    refine WL.q (.pointer (some ⟨b3, 0, none⟩)) (by kernel_rfl) rfl (by kernel_rfl) (by kernel_rfl) ?_
    refine WL.q (.pointer (some ⟨b3, 0, none⟩)) (by kernel_rfl) rfl (by kernel_rfl) (by kernel_rfl) ?_
    refine WL.q (.slice ax fs.length fs.length) (by kernel_rfl) rfl (by kernel_rfl) (q_load (off := 0) rfl (by kernel_rfl) (by kernel_rfl) (G3.own _ _ B3.at) (by kernel_rfl)) ?_
    refine WL.q (.int .i64 (fs.length : Int)) (by kernel_rfl) rfl (by kernel_rfl) (by kernel_rfl) ?_
    refine WL.q (.int .i64 0) (by kernel_rfl) rfl (by kernel_rfl) (by kernel_rfl) ?_
    refine WL.nil ?_
    refine EX.then_code ?_
    refine CW.block ?_
    obtain ⟨N4, s5, s6⟩ : ∃ N_, Own 55 factE M N_ ax cx fs ∧ InnL fs N_ M1 := Ly.swap (Ly.innL fs) (Ly.own (E := factE) 55 ax cx fs) I1 O1
    obtain ⟨N7, s8, s9⟩ : ∃ N_, Blk b2 (.map es2 ck2) N4 N_ ∧ InnL fs N_ M2 := Ly.swap (Ly.innL fs) (Ly.blk b2 (.map es2 ck2)) s6 B2
    obtain ⟨N10, s11, s12⟩ : ∃ N_, Blk b3 (.cells #[(.slice ax fs.length fs.length), (.map (some b2)), (.int .i64 next)] 61 (0, 0)) N7 N_ ∧ InnL fs N_ M3 := Ly.swap (Ly.innL fs) (Ly.blk b3 (.cells #[(.slice ax fs.length fs.length), (.map (some b2)), (.int .i64 next)] 61 (0, 0))) s9 B3
    obtain ⟨h13, l13, G13, gi⟩ := InnL.freeze s12 G3
    have Rf := R.dat hd
    have hrl := Rf.len
    obtain ⟨N14, s15, s16⟩ : ∃ N_, Blk b3 (.cells #[(.slice ax fs.length fs.length), (.map (some b2)), (.int .i64 next)] 61 (0, 0)) N4 N_ ∧ Blk b2 (.map es2 ck2) N_ N10 := Ly.swap (Ly.blk b2 (.map es2 ck2)) (Ly.blk b3 (.cells #[(.slice ax fs.length fs.length), (.map (some b2)), (.int .i64 next)] 61 (0, 0))) s8 s11
    refine CW.loop (β := Nat) (fun x_ => [(2, (.pointer none)), (3, (.pointer (some ⟨b3, 0, none⟩))), (18, (.slice ax fs.length fs.length)), (19, (.int .i64 (fs.length : Int))), (20, (.int .i64 (x_ : Int)))]) (fun x_ w_ => ∃ h_ M0_, (PH.le h13 h_) ∧ (Wld K w_ h_ M0_) ∧ (MapB .string strK b2 (ents (fs.take x_)) N14 M0_) ∧ (x_ ≤ fs.length)) (fun x_ => fs.length - x_) 0 ⟨(by kernel_rfl), (by kernel_rfl), (by kernel_rfl), (by kernel_rfl), (lk_int (x := 0) (by kernel_rfl) (by first | omega | (dsimp only; done) | (dsimp only; omega))), trivial⟩ ⟨h13, N10, (PH.le_refl _), G13, ⟨_, _, s16, m2⟩, (by first | omega | assumption | (dsimp only [List.length_nil, List.length_append, List.length_cons]; omega))⟩ ?_
    rintro k w17 ⟨h17, M0_17, l17, G17, ⟨esb217, ckb217, Bb217, mb217⟩, hk⟩
    try dsimp only at *
    refine CW.seq ?_
    refine CW.region ?_
    refine WL.q (.bool (decide ((k : Int) < (fs.length : Int)))) (by kernel_rfl) rfl (by kernel_rfl) (by kernel_rfl) ?_
    refine WL.nil ?_
    refine EX.then_code ?_
    refine CW.seq ?_
    refine CW.cond (decide ((k : Int) < (fs.length : Int))) (by kernel_rfl) (by kernel_rfl) (fun c18 => ?_) (fun c18 => ?_)
    ·
      skip
      have d19 := of_decide_eq_true c18
      refine CW.skip ?_
      refine EX.then_code ?_
      refine CW.seq ?_
      refine CW.block ?_
      refine CW.seq ?_
      refine CW.region ?_
      refine WL.q (eptr ax (k * factE.sz)) (by kernel_rfl) rfl (by kernel_rfl) (q_indexAddr (i := k) (E := factE) (xs := fs) (e := 55) (c := fs.length) (k := .i64) (m := fs.length) rfl rfl (by kernel_rfl) (by kernel_rfl) (by kernel_rfl) (s5.reads.mono ((s15.le.trans Bb217.le).trans G17.own)) (by omega)) ?_
      refine WL.q (.agg #[(.int .i64 (((fs.getD k factE.dflt)).id)), (.string (((fs.getD k factE.dflt)).t)), (.slice (((fs.getD k factE.dflt)).a) (((fs.getD k factE.dflt)).vals.length) (((fs.getD k factE.dflt)).c))]) (by kernel_rfl) rfl (by kernel_rfl) (q_val (q_loadAgg_e (i := k) (E := factE) rfl (by kernel_rfl) (by kernel_rfl) (s5.reads.mono ((s15.le.trans Bb217.le).trans G17.own)) (by omega)) (by kernel_rfl)) ?_
      refine WL.ex (by kernel_rfl) rfl (by kernel_rfl) (q_newB (ob := (.cells #[(.int .i64 0), (.string (ByteArray.mk #[])), (.slice none 0 0)] 55 (0, 0))) G17 (fun b_ => .pointer (some ⟨b_, 0, none⟩)) (fun u_ => by kernel_rfl)) ?_
      rintro _ w20 ⟨b20, M20, rfl, G20, B20, L20⟩
      refine WL.exu (by kernel_rfl) rfl (by kernel_rfl) (q_storeB (off := 0) (et := 55) (v := (.agg #[(.int .i64 (((fs.getD k factE.dflt)).id)), (.string (((fs.getD k factE.dflt)).t)), (.slice (((fs.getD k factE.dflt)).a) (((fs.getD k factE.dflt)).vals.length) (((fs.getD k factE.dflt)).c))])) (vs := [(.int .i64 (((fs.getD k factE.dflt)).id)), (.string (((fs.getD k factE.dflt)).t)), (.slice (((fs.getD k factE.dflt)).a) (((fs.getD k factE.dflt)).vals.length) (((fs.getD k factE.dflt)).c))]) #[(.int .i64 (((fs.getD k factE.dflt)).id)), (.string (((fs.getD k factE.dflt)).t)), (.slice (((fs.getD k factE.dflt)).a) (((fs.getD k factE.dflt)).vals.length) (((fs.getD k factE.dflt)).c))] G20 B20 rfl (by kernel_rfl) (by kernel_rfl) (by kernel_rfl) (by kernel_rfl) (by simp [Value.oneCell']) (by simp) (by kernel_rfl)) ?_
      rintro w21 ⟨M21, G21, B21⟩
      obtain ⟨h22, l22, G22, hb22⟩ := B21.freeze G21
      refine WL.nil ?_
      refine EX.then_code ?_
      refine CW.draw (by kernel_rfl) [(3, fun w_ => PH.all w_ b3 = some (.cells #[(.slice ax fs.length fs.length), (.map (some b2)), (.int .i64 next)] 61 (0, 0))), (5, fun w_ => PH.all w_ b20 = some (.cells #[(.int .i64 (((fs.getD k factE.dflt)).id)), (.string (((fs.getD k factE.dflt)).t)), (.slice (((fs.getD k factE.dflt)).a) (((fs.getD k factE.dflt)).vals.length) (((fs.getD k factE.dflt)).c))] 55 (0, 0))), (7, fun w_ => PH.all w_ b20 = some (.cells #[(.int .i64 (((fs.getD k factE.dflt)).id)), (.string (((fs.getD k factE.dflt)).t)), (.slice (((fs.getD k factE.dflt)).a) (((fs.getD k factE.dflt)).vals.length) (((fs.getD k factE.dflt)).c))] 55 (0, 0))), (10, fun w_ => PH.all w_ b20 = some (.cells #[(.int .i64 (((fs.getD k factE.dflt)).id)), (.string (((fs.getD k factE.dflt)).t)), (.slice (((fs.getD k factE.dflt)).a) (((fs.getD k factE.dflt)).vals.length) (((fs.getD k factE.dflt)).c))] 55 (0, 0)))] ?_
      refine DW.take (T := fun _ => True) 0 (.pointer (some ⟨b3, 0, none⟩)) rfl (by kernel_rfl) rfl (by kernel_rfl) (.inl fun _ => trivial) (by kernel_rfl) (Deaf.block (Deaf.thens (Deaf.thens (Deaf.block (Deaf.thens (Deaf.body RetM.not_panicked)))))) (fun w_ _ => (by kernel_rfl)) trivial ?_
      refine DW.take (T := fun _ => True) 1 (.pointer (some ⟨b3, 0, none⟩)) rfl (by kernel_rfl) rfl (by kernel_rfl) (.inl fun _ => trivial) (by kernel_rfl) (Deaf.block (Deaf.thens (Deaf.thens (Deaf.block (Deaf.thens (Deaf.body RetM.not_panicked)))))) (fun w_ _ => (by kernel_rfl)) trivial ?_
      refine DW.take (T := fun _ => True) 2 (.pointer (some ⟨b3, 1, none⟩)) rfl (by kernel_rfl) rfl (by kernel_rfl) (.inl fun _ => trivial) (by kernel_rfl) (Deaf.block (Deaf.thens (Deaf.thens (Deaf.block (Deaf.thens (Deaf.body RetM.not_panicked)))))) (fun w_ _ => (by kernel_rfl)) trivial ?_
      refine DW.take (T := fun w_ => PH.all w_ b3 = some (.cells #[(.slice ax fs.length fs.length), (.map (some b2)), (.int .i64 next)] 61 (0, 0))) 3 (.map (some b2)) rfl (by kernel_rfl) rfl (by kernel_rfl) (.inr (by simp only [List.mem_cons, true_or, or_true])) (by kernel_rfl) (Deaf.block (Deaf.thens (Deaf.thens (Deaf.block (Deaf.thens (Deaf.body RetM.not_panicked)))))) (fun w_ T_ => (q_load (off := 1) rfl (by kernel_rfl) (by kernel_rfl) T_ (by kernel_rfl))) ((G22.drew).own _ _ (Bb217.le _ _ s15.at)) ?_
      refine DW.take (T := fun _ => True) 4 (.pointer (some ⟨b20, 1, none⟩)) rfl (by kernel_rfl) rfl (by kernel_rfl) (.inl fun _ => trivial) (by kernel_rfl) (Deaf.block (Deaf.thens (Deaf.thens (Deaf.block (Deaf.thens (Deaf.body RetM.not_panicked)))))) (fun w_ _ => (by kernel_rfl)) trivial ?_
      refine DW.take (T := fun w_ => PH.all w_ b20 = some (.cells #[(.int .i64 (((fs.getD k factE.dflt)).id)), (.string (((fs.getD k factE.dflt)).t)), (.slice (((fs.getD k factE.dflt)).a) (((fs.getD k factE.dflt)).vals.length) (((fs.getD k factE.dflt)).c))] 55 (0, 0))) 5 (.string (((fs.getD k factE.dflt)).t)) rfl (by kernel_rfl) rfl (by kernel_rfl) (.inr (by simp only [List.mem_cons, true_or, or_true])) (by kernel_rfl) (Deaf.block (Deaf.thens (Deaf.thens (Deaf.block (Deaf.thens (Deaf.body RetM.not_panicked)))))) (fun w_ T_ => (q_load (off := 1) rfl (by kernel_rfl) (by kernel_rfl) T_ (by kernel_rfl))) ((G22.drew).imm _ _ ((PH.le_refl _) _ _ hb22)) ?_
      refine DW.take (T := fun _ => True) 6 (.pointer (some ⟨b20, 2, none⟩)) rfl (by kernel_rfl) rfl (by kernel_rfl) (.inl fun _ => trivial) (by kernel_rfl) (Deaf.block (Deaf.thens (Deaf.thens (Deaf.block (Deaf.thens (Deaf.body RetM.not_panicked)))))) (fun w_ _ => (by kernel_rfl)) trivial ?_
      refine DW.take (T := fun w_ => PH.all w_ b20 = some (.cells #[(.int .i64 (((fs.getD k factE.dflt)).id)), (.string (((fs.getD k factE.dflt)).t)), (.slice (((fs.getD k factE.dflt)).a) (((fs.getD k factE.dflt)).vals.length) (((fs.getD k factE.dflt)).c))] 55 (0, 0))) 7 (.slice (((fs.getD k factE.dflt)).a) (((fs.getD k factE.dflt)).vals.length) (((fs.getD k factE.dflt)).c)) rfl (by kernel_rfl) rfl (by kernel_rfl) (.inr (by simp only [List.mem_cons, true_or, or_true])) (by kernel_rfl) (Deaf.block (Deaf.thens (Deaf.thens (Deaf.block (Deaf.thens (Deaf.body RetM.not_panicked)))))) (fun w_ T_ => (q_load (off := 2) rfl (by kernel_rfl) (by kernel_rfl) T_ (by kernel_rfl))) ((G22.drew).imm _ _ ((PH.le_refl _) _ _ hb22)) ?_
      refine DW.take (T := fun _ => True) 9 (.pointer (some ⟨b20, 0, none⟩)) rfl (by kernel_rfl) rfl (by kernel_rfl) (.inl fun _ => trivial) (by kernel_rfl) (Deaf.block (Deaf.thens (Deaf.thens (Deaf.block (Deaf.thens (Deaf.body RetM.not_panicked)))))) (fun w_ _ => (by kernel_rfl)) trivial ?_
      refine DW.take (T := fun w_ => PH.all w_ b20 = some (.cells #[(.int .i64 (((fs.getD k factE.dflt)).id)), (.string (((fs.getD k factE.dflt)).t)), (.slice (((fs.getD k factE.dflt)).a) (((fs.getD k factE.dflt)).vals.length) (((fs.getD k factE.dflt)).c))] 55 (0, 0))) 10 (.int .i64 (((fs.getD k factE.dflt)).id)) rfl (by kernel_rfl) rfl (by kernel_rfl) (.inr (by simp only [List.mem_cons, true_or, or_true])) (by kernel_rfl) (Deaf.block (Deaf.thens (Deaf.thens (Deaf.block (Deaf.thens (Deaf.body RetM.not_panicked)))))) (fun w_ T_ => (q_load (off := 0) rfl (by kernel_rfl) (by kernel_rfl) T_ (by kernel_rfl))) ((G22.drew).imm _ _ ((PH.le_refl _) _ _ hb22)) ?_
      refine DW.only 8 (by kernel_rfl) ?_
      refine DOp.call rfl (by kernel_rfl) rfl (by kernel_rfl) (by kernel_rfl) (key_spec (G22.drew) (T.mono (((l1.trans l13).trans l17).trans l22)) (xs := (((fs.getD k factE.dflt)).vals)) (c := (((fs.getD k factE.dflt)).c)) ((gi _ (getD_mem (by omega))).mono (l17.trans l22)) (Rf.ok _ (getD_mem (d := factE.dflt) (by omega)))) (Ret.elimD (fun w23 h23 l23 G23 => ⟨.inr (fun _ => (G23.own _ _ (Bb217.le _ _ s15.at))), .inl (by kernel_rfl), .inl (by kernel_rfl), .inr (fun _ => (G23.imm _ _ (l23 _ _ hb22))), trivial⟩) ?_)
      rintro w23 h23 _ l23 G23 rfl
      refine DW.only 11 (by kernel_rfl) ?_
      refine DOp.exu rfl (by kernel_rfl) rfl (by kernel_rfl) (q_mapUp (k := ((keyF (((fs.getD k factE.dflt)).t) (((fs.getD k factE.dflt)).vals)))) (v := (.int .i64 (((fs.getD k factE.dflt)).id))) G23 Bb217 mb217 (by first | exact .inl rfl | exact .inr rfl) mapT59 (by kernel_rfl) (by kernel_rfl) (by kernel_rfl)) (fun w24 p_ => by obtain ⟨M24, es24, ck24, G24, B24, m24⟩ := p_; exact ⟨.inl (by kernel_rfl), .inl (by kernel_rfl), .inl (by kernel_rfl), .inl (by kernel_rfl), trivial⟩) ?_
      rintro w24 ⟨M24, es24, ck24, G24, B24, m24⟩
      refine DW.done (by kernel_rfl) ?_
      refine EX.in_block ?_
      refine EX.then_code ?_
      refine CW.region ?_
      refine WL.q (.int .i64 ((k + 1 : Nat) : Int)) (by kernel_rfl) rfl (by kernel_rfl) (q_int (x := IntKind.i64.wrap ((k : Int) + 1)) (by kernel_rfl) (wrap_to (by omega) (by omega) (by omega))) ?_
      refine WL.q (.int .i64 ((k + 1 : Nat) : Int)) (by kernel_rfl) rfl (by kernel_rfl) (by kernel_rfl) ?_
      refine WL.nil ?_
      exact EX.then_loop (k + 1) ⟨(by kernel_rfl), (by kernel_rfl), (by kernel_rfl), (by kernel_rfl), (lk_int (x := ((k + 1 : Nat) : Int)) (by kernel_rfl) (by first | omega | (dsimp only; done) | (dsimp only; omega))), trivial⟩ ⟨h23, M24, ((l17.trans l22).trans l23), G24, ⟨_, _, B24, ((mput_take Rf.keys (k := k) (by omega)) ▸ m24)⟩, (by first | omega | assumption | (dsimp only [List.length_nil, List.length_append, List.length_cons]; omega))⟩ (by first | omega | (dsimp only; omega))
    ·
      skip
      have d25 := of_decide_eq_false c18
      refine CW.exit ?_
      refine EX.exit_then ?_
      refine EX.exit_then ?_
      refine EX.exit_here ?_
      refine EX.then_code ?_
      refine CW.seq ?_
      refine CW.region ?_
      refine WL.q (.pointer (some ⟨b3, 0, none⟩)) (by kernel_rfl) rfl (by kernel_rfl) (by kernel_rfl) ?_
      refine WL.q (.pointer (some ⟨b3, 0, none⟩)) (by kernel_rfl) rfl (by kernel_rfl) (by kernel_rfl) ?_
      refine WL.nil ?_
      refine EX.then_code ?_
      refine CW.ret ?_
      refine EX.ret1 (v := (.pointer (some ⟨b3, 0, none⟩))) rfl (by kernel_rfl) ?_
      obtain rfl : k = fs.length := by omega
      obtain ⟨N26, s27, s28⟩ : ∃ N_, Blk b2 (.map esb217 ckb217) N4 N_ ∧ Blk b3 (.cells #[(.slice ax fs.length fs.length), (.map (some b2)), (.int .i64 next)] 61 (0, 0)) N_ M0_17 := Ly.swap (Ly.blk b3 (.cells #[(.slice ax fs.length fs.length), (.map (some b2)), (.int .i64 next)] 61 (0, 0))) (Ly.blk b2 (.map esb217 ckb217)) s15 Bb217
      obtain ⟨N29, s30, s31⟩ : ∃ N_, Blk b3 (.cells #[(.slice ax fs.length fs.length), (.map (some b2)), (.int .i64 next)] 61 (0, 0)) N4 N_ ∧ Blk b2 (.map esb217 ckb217) N_ M0_17 := Ly.swap (Ly.blk b2 (.map esb217 ckb217)) (Ly.blk b3 (.cells #[(.slice ax fs.length fs.length), (.map (some b2)), (.int .i64 next)] 61 (0, 0))) s27 s28
      obtain ⟨N32, s33, s34⟩ : ∃ N_, Blk b3 (.cells #[(.slice ax fs.length fs.length), (.map (some b2)), (.int .i64 next)] 61 (0, 0)) M N_ ∧ Own 55 factE N_ N29 ax cx fs := Ly.swap (Ly.own (E := factE) 55 ax cx fs) (Ly.blk b3 (.cells #[(.slice ax fs.length fs.length), (.map (some b2)), (.int .i64 next)] 61 (0, 0))) s5 s30
      obtain ⟨N35, s36, s37⟩ : ∃ N_, Blk b2 (.map esb217 ckb217) N32 N_ ∧ Own 55 factE N_ M0_17 ax cx fs := Ly.swap (Ly.own (E := factE) 55 ax cx fs) (Ly.blk b2 (.map esb217 ckb217)) s34 s31
      exact RetM.mk ((l1.trans l13).trans l17) G17 ⟨_, fs, rfl, ⟨_, _, _, _, _, _, _, s33, s36, (s37.slack (Nat.le_refl _) s37.cap_le), by have q_ := mb217; rwa [List.take_length] at q_, (all_up @factG.mono l17 gi)⟩, hd, Rf⟩
  ·
    skip
    refine DOp.ex rfl (by kernel_rfl) rfl (by kernel_rfl) (q_makeMap (d := .string) (ke := strK) (G.drew) strK_key strK_inj (fun u_ => by kernel_rfl)) (fun v_ w38 p_ => by obtain ⟨b38, M38, es38, ck38, rfl, G38, B38, m38, L38⟩ := p_; exact ⟨.inr (fun _ => (G38.own _ _ ((((Bb.le.trans Oo.le).trans hM).trans B38.le) _ _ Ba.at))), trivial⟩) ?_
    rintro _ w38 ⟨b38, M38, es38, ck38, rfl, G38, B38, m38, L38⟩
    refine DW.only 1 (by kernel_rfl) ?_
    refine DOp.call rfl (by kernel_rfl) rfl (by kernel_rfl) (by kernel_rfl) (allO_spec G38 ⟨bm, am, cm, es, clk, Ma, Mb, Ba, Bb, Oo, mi, gd⟩ (hM.trans B38.le) R) (RetM.elimD (fun w39 h39 M39 v_ l39 G39 p_ => by obtain ⟨ax, cx, fs, N39, rfl, I39, O39, hd⟩ := p_; exact ⟨.inr (fun _ => (G39.own _ _ ((((Bb.le.trans Oo.le).trans hM).trans ((B38.le.trans (Ly.le (Ly.innL fs) I39)).trans O39.le)) _ _ Ba.at))), trivial⟩) ?_)
    rintro w39 h39 M39 _ l39 G39 ⟨ax, cx, fs, N39, rfl, I39, O39, hd⟩
    refine DW.take (T := fun _ => True) 7 (.agg #[(.slice ax fs.length fs.length), (.map (some b38)), (.int .i64 next)]) rfl (by kernel_rfl) rfl (by kernel_rfl) (.inl fun _ => trivial) (by kernel_rfl) (Deaf.thens (Deaf.body RetM.not_panicked)) (fun w_ _ => (by kernel_rfl)) trivial ?_
    refine DW.only 8 (by kernel_rfl) ?_
    refine DOp.ex rfl (by kernel_rfl) rfl (by kernel_rfl) (q_newB (ob := (.cells #[(.slice ax fs.length fs.length), (.map (some b38)), (.int .i64 next)] 61 (0, 0))) G39 (fun b_ => .pointer (some ⟨b_, 0, none⟩)) (fun u_ => by kernel_rfl)) (fun v_ w40 p_ => by obtain ⟨b40, M40, rfl, G40, B40, L40⟩ := p_; exact ⟨.inr (fun _ => (G40.own _ _ ((((Bb.le.trans Oo.le).trans hM).trans (((B38.le.trans (Ly.le (Ly.innL fs) I39)).trans O39.le).trans B40.le)) _ _ Ba.at))), trivial⟩) ?_
    rintro _ w40 ⟨b40, M40, rfl, G40, B40, L40⟩
    refine DW.take (T := fun _ => True) 9 (.pointer (some ⟨b40, 0, none⟩)) rfl (by kernel_rfl) rfl (by kernel_rfl) (.inl fun _ => trivial) (by kernel_rfl) (Deaf.thens (Deaf.body RetM.not_panicked)) (fun w_ _ => (by kernel_rfl)) trivial ?_
    refine DW.done (by kernel_rfl) ?_
    refine EX.then_code ?_
    refine CW.seq ?_
    refine CW.seq ?_
    refine CW.region ?_
    refine WL.q (.pointer (some ⟨b40, 0, none⟩)) (by kernel_rfl) rfl (by kernel_rfl) (by kernel_rfl) ?_
    refine WL.q (.pointer (some ⟨b40, 0, none⟩)) (by kernel_rfl) rfl (by kernel_rfl) (by kernel_rfl) ?_
    refine WL.q (.pointer (some ⟨b40, 0, none⟩)) (by kernel_rfl) rfl (by kernel_rfl) (by kernel_rfl) ?_
    refine WL.q (.slice ax fs.length fs.length) (by kernel_rfl) rfl (by kernel_rfl) (q_load (off := 0) rfl (by kernel_rfl) (by kernel_rfl) (G40.own _ _ B40.at) (by kernel_rfl)) ?_
    refine WL.q (.int .i64 (fs.length : Int)) (by kernel_rfl) rfl (by kernel_rfl) (by kernel_rfl) ?_
    refine WL.q (.int .i64 0) (by kernel_rfl) rfl (by kernel_rfl) (by kernel_rfl) ?_
    refine WL.nil ?_
    refine EX.then_code ?_
    refine CW.block ?_
    obtain ⟨N41, s42, s43⟩ : ∃ N_, Own 55 factE M38 N_ ax cx fs ∧ InnL fs N_ M39 := Ly.swap (Ly.innL fs) (Ly.own (E := factE) 55 ax cx fs) I39 O39
    obtain ⟨N44, s45, s46⟩ : ∃ N_, Blk b40 (.cells #[(.slice ax fs.length fs.length), (.map (some b38)), (.int .i64 next)] 61 (0, 0)) N41 N_ ∧ InnL fs N_ M40 := Ly.swap (Ly.innL fs) (Ly.blk b40 (.cells #[(.slice ax fs.length fs.length), (.map (some b38)), (.int .i64 next)] 61 (0, 0))) s43 B40
    obtain ⟨h47, l47, G47, gi⟩ := InnL.freeze s46 G40
    have Rf := R.dat hd
    have hrl := Rf.len
    obtain ⟨N48, s49, s50⟩ : ∃ N_, Own 55 factE M N_ ax cx fs ∧ Blk b38 (.map es38 ck38) N_ N41 := Ly.swap (Ly.blk b38 (.map es38 ck38)) (Ly.own (E := factE) 55 ax cx fs) B38 s42
    obtain ⟨N51, s52, s53⟩ : ∃ N_, Blk b40 (.cells #[(.slice ax fs.length fs.length), (.map (some b38)), (.int .i64 next)] 61 (0, 0)) N48 N_ ∧ Blk b38 (.map es38 ck38) N_ N44 := Ly.swap (Ly.blk b38 (.map es38 ck38)) (Ly.blk b40 (.cells #[(.slice ax fs.length fs.length), (.map (some b38)), (.int .i64 next)] 61 (0, 0))) s50 s45
    refine CW.loop (β := Nat) (fun x_ => [(2, (.pointer none)), (3, (.pointer (some ⟨b40, 0, none⟩))), (18, (.slice ax fs.length fs.length)), (19, (.int .i64 (fs.length : Int))), (20, (.int .i64 (x_ : Int)))]) (fun x_ w_ => ∃ h_ M0_, (PH.le h47 h_) ∧ (Wld K w_ h_ M0_) ∧ (MapB .string strK b38 (ents (fs.take x_)) N51 M0_) ∧ (x_ ≤ fs.length)) (fun x_ => fs.length - x_) 0 ⟨(by kernel_rfl), (by kernel_rfl), (by kernel_rfl), (by kernel_rfl), (lk_int (x := 0) (by kernel_rfl) (by first | omega | (dsimp only; done) | (dsimp only; omega))), trivial⟩ ⟨h47, N44, (PH.le_refl _), G47, ⟨_, _, s53, m38⟩, (by first | omega | assumption | (dsimp only [List.length_nil, List.length_append, List.length_cons]; omega))⟩ ?_
    rintro k w54 ⟨h54, M0_54, l54, G54, ⟨esb3854, ckb3854, Bb3854, mb3854⟩, hk⟩
    try dsimp only at *
    refine CW.seq ?_
    refine CW.region ?_
    refine WL.q (.bool (decide ((k : Int) < (fs.length : Int)))) (by kernel_rfl) rfl (by kernel_rfl) (by kernel_rfl) ?_
    refine WL.nil ?_
    refine EX.then_code ?_
    refine CW.seq ?_
    refine CW.cond (decide ((k : Int) < (fs.length : Int))) (by kernel_rfl) (by kernel_rfl) (fun c55 => ?_) (fun c55 => ?_)
    ·
      skip
      have d56 := of_decide_eq_true c55
      refine CW.skip ?_
      refine EX.then_code ?_
      refine CW.seq ?_
      refine CW.block ?_
      refine CW.seq ?_
      refine CW.region ?_
      refine WL.q (eptr ax (k * factE.sz)) (by kernel_rfl) rfl (by kernel_rfl) (q_indexAddr (i := k) (E := factE) (xs := fs) (e := 55) (c := fs.length) (k := .i64) (m := fs.length) rfl rfl (by kernel_rfl) (by kernel_rfl) (by kernel_rfl) (s49.reads.mono ((s52.le.trans Bb3854.le).trans G54.own)) (by omega)) ?_
      refine WL.q (.agg #[(.int .i64 (((fs.getD k factE.dflt)).id)), (.string (((fs.getD k factE.dflt)).t)), (.slice (((fs.getD k factE.dflt)).a) (((fs.getD k factE.dflt)).vals.length) (((fs.getD k factE.dflt)).c))]) (by kernel_rfl) rfl (by kernel_rfl) (q_val (q_loadAgg_e (i := k) (E := factE) rfl (by kernel_rfl) (by kernel_rfl) (s49.reads.mono ((s52.le.trans Bb3854.le).trans G54.own)) (by omega)) (by kernel_rfl)) ?_
      refine WL.ex (by kernel_rfl) rfl (by kernel_rfl) (q_newB (ob := (.cells #[(.int .i64 0), (.string (ByteArray.mk #[])), (.slice none 0 0)] 55 (0, 0))) G54 (fun b_ => .pointer (some ⟨b_, 0, none⟩)) (fun u_ => by kernel_rfl)) ?_
      rintro _ w57 ⟨b57, M57, rfl, G57, B57, L57⟩
      refine WL.exu (by kernel_rfl) rfl (by kernel_rfl) (q_storeB (off := 0) (et := 55) (v := (.agg #[(.int .i64 (((fs.getD k factE.dflt)).id)), (.string (((fs.getD k factE.dflt)).t)), (.slice (((fs.getD k factE.dflt)).a) (((fs.getD k factE.dflt)).vals.length) (((fs.getD k factE.dflt)).c))])) (vs := [(.int .i64 (((fs.getD k factE.dflt)).id)), (.string (((fs.getD k factE.dflt)).t)), (.slice (((fs.getD k factE.dflt)).a) (((fs.getD k factE.dflt)).vals.length) (((fs.getD k factE.dflt)).c))]) #[(.int .i64 (((fs.getD k factE.dflt)).id)), (.string (((fs.getD k factE.dflt)).t)), (.slice (((fs.getD k factE.dflt)).a) (((fs.getD k factE.dflt)).vals.length) (((fs.getD k factE.dflt)).c))] G57 B57 rfl (by kernel_rfl) (by kernel_rfl) (by kernel_rfl) (by kernel_rfl) (by simp [Value.oneCell']) (by simp) (by kernel_rfl)) ?_
      rintro w58 ⟨M58, G58, B58⟩
      obtain ⟨h59, l59, G59, hb59⟩ := B58.freeze G58
      refine WL.nil ?_
      refine EX.then_code ?_
      refine CW.draw (by kernel_rfl) [(3, fun w_ => PH.all w_ b40 = some (.cells #[(.slice ax fs.length fs.length), (.map (some b38)), (.int .i64 next)] 61 (0, 0))), (5, fun w_ => PH.all w_ b57 = some (.cells #[(.int .i64 (((fs.getD k factE.dflt)).id)), (.string (((fs.getD k factE.dflt)).t)), (.slice (((fs.getD k factE.dflt)).a) (((fs.getD k factE.dflt)).vals.length) (((fs.getD k factE.dflt)).c))] 55 (0, 0))), (7, fun w_ => PH.all w_ b57 = some (.cells #[(.int .i64 (((fs.getD k factE.dflt)).id)), (.string (((fs.getD k factE.dflt)).t)), (.slice (((fs.getD k factE.dflt)).a) (((fs.getD k factE.dflt)).vals.length) (((fs.getD k factE.dflt)).c))] 55 (0, 0))), (10, fun w_ => PH.all w_ b57 = some (.cells #[(.int .i64 (((fs.getD k factE.dflt)).id)), (.string (((fs.getD k factE.dflt)).t)), (.slice (((fs.getD k factE.dflt)).a) (((fs.getD k factE.dflt)).vals.length) (((fs.getD k factE.dflt)).c))] 55 (0, 0)))] ?_
      refine DW.take (T := fun _ => True) 0 (.pointer (some ⟨b40, 0, none⟩)) rfl (by kernel_rfl) rfl (by kernel_rfl) (.inl fun _ => trivial) (by kernel_rfl) (Deaf.block (Deaf.thens (Deaf.thens (Deaf.block (Deaf.thens (Deaf.body RetM.not_panicked)))))) (fun w_ _ => (by kernel_rfl)) trivial ?_
      refine DW.take (T := fun _ => True) 1 (.pointer (some ⟨b40, 0, none⟩)) rfl (by kernel_rfl) rfl (by kernel_rfl) (.inl fun _ => trivial) (by kernel_rfl) (Deaf.block (Deaf.thens (Deaf.thens (Deaf.block (Deaf.thens (Deaf.body RetM.not_panicked)))))) (fun w_ _ => (by kernel_rfl)) trivial ?_
      refine DW.take (T := fun _ => True) 2 (.pointer (some ⟨b40, 1, none⟩)) rfl (by kernel_rfl) rfl (by kernel_rfl) (.inl fun _ => trivial) (by kernel_rfl) (Deaf.block (Deaf.thens (Deaf.thens (Deaf.block (Deaf.thens (Deaf.body RetM.not_panicked)))))) (fun w_ _ => (by kernel_rfl)) trivial ?_
      refine DW.take (T := fun w_ => PH.all w_ b40 = some (.cells #[(.slice ax fs.length fs.length), (.map (some b38)), (.int .i64 next)] 61 (0, 0))) 3 (.map (some b38)) rfl (by kernel_rfl) rfl (by kernel_rfl) (.inr (by simp only [List.mem_cons, true_or, or_true])) (by kernel_rfl) (Deaf.block (Deaf.thens (Deaf.thens (Deaf.block (Deaf.thens (Deaf.body RetM.not_panicked)))))) (fun w_ T_ => (q_load (off := 1) rfl (by kernel_rfl) (by kernel_rfl) T_ (by kernel_rfl))) ((G59.drew).own _ _ (Bb3854.le _ _ s52.at)) ?_
      refine DW.take (T := fun _ => True) 4 (.pointer (some ⟨b57, 1, none⟩)) rfl (by kernel_rfl) rfl (by kernel_rfl) (.inl fun _ => trivial) (by kernel_rfl) (Deaf.block (Deaf.thens (Deaf.thens (Deaf.block (Deaf.thens (Deaf.body RetM.not_panicked)))))) (fun w_ _ => (by kernel_rfl)) trivial ?_
      refine DW.take (T := fun w_ => PH.all w_ b57 = some (.cells #[(.int .i64 (((fs.getD k factE.dflt)).id)), (.string (((fs.getD k factE.dflt)).t)), (.slice (((fs.getD k factE.dflt)).a) (((fs.getD k factE.dflt)).vals.length) (((fs.getD k factE.dflt)).c))] 55 (0, 0))) 5 (.string (((fs.getD k factE.dflt)).t)) rfl (by kernel_rfl) rfl (by kernel_rfl) (.inr (by simp only [List.mem_cons, true_or, or_true])) (by kernel_rfl) (Deaf.block (Deaf.thens (Deaf.thens (Deaf.block (Deaf.thens (Deaf.body RetM.not_panicked)))))) (fun w_ T_ => (q_load (off := 1) rfl (by kernel_rfl) (by kernel_rfl) T_ (by kernel_rfl))) ((G59.drew).imm _ _ ((PH.le_refl _) _ _ hb59)) ?_
      refine DW.take (T := fun _ => True) 6 (.pointer (some ⟨b57, 2, none⟩)) rfl (by kernel_rfl) rfl (by kernel_rfl) (.inl fun _ => trivial) (by kernel_rfl) (Deaf.block (Deaf.thens (Deaf.thens (Deaf.block (Deaf.thens (Deaf.body RetM.not_panicked)))))) (fun w_ _ => (by kernel_rfl)) trivial ?_
      refine DW.take (T := fun w_ => PH.all w_ b57 = some (.cells #[(.int .i64 (((fs.getD k factE.dflt)).id)), (.string (((fs.getD k factE.dflt)).t)), (.slice (((fs.getD k factE.dflt)).a) (((fs.getD k factE.dflt)).vals.length) (((fs.getD k factE.dflt)).c))] 55 (0, 0))) 7 (.slice (((fs.getD k factE.dflt)).a) (((fs.getD k factE.dflt)).vals.length) (((fs.getD k factE.dflt)).c)) rfl (by kernel_rfl) rfl (by kernel_rfl) (.inr (by simp only [List.mem_cons, true_or, or_true])) (by kernel_rfl) (Deaf.block (Deaf.thens (Deaf.thens (Deaf.block (Deaf.thens (Deaf.body RetM.not_panicked)))))) (fun w_ T_ => (q_load (off := 2) rfl (by kernel_rfl) (by kernel_rfl) T_ (by kernel_rfl))) ((G59.drew).imm _ _ ((PH.le_refl _) _ _ hb59)) ?_
      refine DW.take (T := fun _ => True) 9 (.pointer (some ⟨b57, 0, none⟩)) rfl (by kernel_rfl) rfl (by kernel_rfl) (.inl fun _ => trivial) (by kernel_rfl) (Deaf.block (Deaf.thens (Deaf.thens (Deaf.block (Deaf.thens (Deaf.body RetM.not_panicked)))))) (fun w_ _ => (by kernel_rfl)) trivial ?_
      refine DW.take (T := fun w_ => PH.all w_ b57 = some (.cells #[(.int .i64 (((fs.getD k factE.dflt)).id)), (.string (((fs.getD k factE.dflt)).t)), (.slice (((fs.getD k factE.dflt)).a) (((fs.getD k factE.dflt)).vals.length) (((fs.getD k factE.dflt)).c))] 55 (0, 0))) 10 (.int .i64 (((fs.getD k factE.dflt)).id)) rfl (by kernel_rfl) rfl (by kernel_rfl) (.inr (by simp only [List.mem_cons, true_or, or_true])) (by kernel_rfl) (Deaf.block (Deaf.thens (Deaf.thens (Deaf.block (Deaf.thens (Deaf.body RetM.not_panicked)))))) (fun w_ T_ => (q_load (off := 0) rfl (by kernel_rfl) (by kernel_rfl) T_ (by kernel_rfl))) ((G59.drew).imm _ _ ((PH.le_refl _) _ _ hb59)) ?_
      refine DW.only 8 (by kernel_rfl) ?_
      refine DOp.call rfl (by kernel_rfl) rfl (by kernel_rfl) (by kernel_rfl) (key_spec (G59.drew) (T.mono (((l39.trans l47).trans l54).trans l59)) (xs := (((fs.getD k factE.dflt)).vals)) (c := (((fs.getD k factE.dflt)).c)) ((gi _ (getD_mem (by omega))).mono (l54.trans l59)) (Rf.ok _ (getD_mem (d := factE.dflt) (by omega)))) (Ret.elimD (fun w60 h60 l60 G60 => ⟨.inr (fun _ => (G60.own _ _ (Bb3854.le _ _ s52.at))), .inl (by kernel_rfl), .inl (by kernel_rfl), .inr (fun _ => (G60.imm _ _ (l60 _ _ hb59))), trivial⟩) ?_)
      rintro w60 h60 _ l60 G60 rfl
      refine DW.only 11 (by kernel_rfl) ?_
      refine DOp.exu rfl (by kernel_rfl) rfl (by kernel_rfl) (q_mapUp (k := ((keyF (((fs.getD k factE.dflt)).t) (((fs.getD k factE.dflt)).vals)))) (v := (.int .i64 (((fs.getD k factE.dflt)).id))) G60 Bb3854 mb3854 (by first | exact .inl rfl | exact .inr rfl) mapT59 (by kernel_rfl) (by kernel_rfl) (by kernel_rfl)) (fun w61 p_ => by obtain ⟨M61, es61, ck61, G61, B61, m61⟩ := p_; exact ⟨.inl (by kernel_rfl), .inl (by kernel_rfl), .inl (by kernel_rfl), .inl (by kernel_rfl), trivial⟩) ?_
      rintro w61 ⟨M61, es61, ck61, G61, B61, m61⟩
      refine DW.done (by kernel_rfl) ?_
      refine EX.in_block ?_
      refine EX.then_code ?_
      refine CW.region ?_
      refine WL.q (.int .i64 ((k + 1 : Nat) : Int)) (by kernel_rfl) rfl (by kernel_rfl) (q_int (x := IntKind.i64.wrap ((k : Int) + 1)) (by kernel_rfl) (wrap_to (by omega) (by omega) (by omega))) ?_
      refine WL.q (.int .i64 ((k + 1 : Nat) : Int)) (by kernel_rfl) rfl (by kernel_rfl) (by kernel_rfl) ?_
      refine WL.nil ?_
      exact EX.then_loop (k + 1) ⟨(by kernel_rfl), (by kernel_rfl), (by kernel_rfl), (by kernel_rfl), (lk_int (x := ((k + 1 : Nat) : Int)) (by kernel_rfl) (by first | omega | (dsimp only; done) | (dsimp only; omega))), trivial⟩ ⟨h60, M61, ((l54.trans l59).trans l60), G61, ⟨_, _, B61, ((mput_take Rf.keys (k := k) (by omega)) ▸ m61)⟩, (by first | omega | assumption | (dsimp only [List.length_nil, List.length_append, List.length_cons]; omega))⟩ (by first | omega | (dsimp only; omega))
    ·
      skip
      have d62 := of_decide_eq_false c55
      refine CW.exit ?_
      refine EX.exit_then ?_
      refine EX.exit_then ?_
      refine EX.exit_here ?_
      refine EX.then_code ?_
      refine CW.seq ?_
      refine CW.region ?_
      refine WL.q (.pointer (some ⟨b40, 0, none⟩)) (by kernel_rfl) rfl (by kernel_rfl) (by kernel_rfl) ?_
      refine WL.q (.pointer (some ⟨b40, 0, none⟩)) (by kernel_rfl) rfl (by kernel_rfl) (by kernel_rfl) ?_
      refine WL.nil ?_
      refine EX.then_code ?_
      refine CW.ret ?_
      refine EX.ret1 (v := (.pointer (some ⟨b40, 0, none⟩))) rfl (by kernel_rfl) ?_
      obtain rfl : k = fs.length := by omega
      obtain ⟨N63, s64, s65⟩ : ∃ N_, Blk b38 (.map esb3854 ckb3854) N48 N_ ∧ Blk b40 (.cells #[(.slice ax fs.length fs.length), (.map (some b38)), (.int .i64 next)] 61 (0, 0)) N_ M0_54 := Ly.swap (Ly.blk b40 (.cells #[(.slice ax fs.length fs.length), (.map (some b38)), (.int .i64 next)] 61 (0, 0))) (Ly.blk b38 (.map esb3854 ckb3854)) s52 Bb3854
      obtain ⟨N66, s67, s68⟩ : ∃ N_, Blk b40 (.cells #[(.slice ax fs.length fs.length), (.map (some b38)), (.int .i64 next)] 61 (0, 0)) N48 N_ ∧ Blk b38 (.map esb3854 ckb3854) N_ M0_54 := Ly.swap (Ly.blk b38 (.map esb3854 ckb3854)) (Ly.blk b40 (.cells #[(.slice ax fs.length fs.length), (.map (some b38)), (.int .i64 next)] 61 (0, 0))) s64 s65
      obtain ⟨N69, s70, s71⟩ : ∃ N_, Blk b40 (.cells #[(.slice ax fs.length fs.length), (.map (some b38)), (.int .i64 next)] 61 (0, 0)) M N_ ∧ Own 55 factE N_ N66 ax cx fs := Ly.swap (Ly.own (E := factE) 55 ax cx fs) (Ly.blk b40 (.cells #[(.slice ax fs.length fs.length), (.map (some b38)), (.int .i64 next)] 61 (0, 0))) s49 s67
      obtain ⟨N72, s73, s74⟩ : ∃ N_, Blk b38 (.map esb3854 ckb3854) N69 N_ ∧ Own 55 factE N_ M0_54 ax cx fs := Ly.swap (Ly.own (E := factE) 55 ax cx fs) (Ly.blk b38 (.map esb3854 ckb3854)) s71 s68
      exact RetM.mk ((l39.trans l47).trans l54) G54 ⟨_, fs, rfl, ⟨_, _, _, _, _, _, _, s70, s73, (s74.slack (Nat.le_refl _) s74.cap_le), by have q_ := mb3854; rwa [List.take_length] at q_, (all_up @factG.mono l54 gi)⟩, hd, Rf⟩

theorem take_one (fs : List FactD) {k : Nat} (hk : k < fs.length) : fs.take k ++ [FactD.mk (fs.getD k factE.dflt).id (fs.getD k factE.dflt).t (fs.getD k factE.dflt).a (fs.getD k factE.dflt).vals (fs.getD k factE.dflt).c] = fs.take (k + 1) := by
  have e : fs.getD k factE.dflt = fs[k] := by simp [List.getD, hk]
  rw [List.take_succ_eq_append_getElem hk, e]

theorem ofL_spec {K : Key} {w : World} {h M : PH} (G : Wld K w h M) {a : Option Addr} {fs : List FactD} {c : Nat} (Hf : RS h factE a fs) (Gf : ∀ f ∈ fs, factG h f) (hb : fs.length ≤ 1000000) :
    Calls Tryd.prog 13 #[.slice a fs.length c] w (Ret K h M fun h' v => ∃ a' c', v = .slice a' fs.length c' ∧ RS h' factE a' fs) := by
  refine enter (l := [(.slice a fs.length c)]) Tryd.func13 rfl Tryd.ntmps13 (Nat.le_of_ble_eq_true rfl) ?_
  simp only [params]
  refine CW.seq ?_
  refine CW.region ?_
  refine WL.q (.slice none 0 0) (by kernel_rfl) rfl (by kernel_rfl) (by kernel_rfl) ?_
  refine WL.nil ?_
  refine EX.then_code ?_
  refine CW.seq ?_
  refine CW.region ?_
  refine WL.q (.slice none 0 0) (by kernel_rfl) rfl (by kernel_rfl) (by kernel_rfl) ?_
  refine WL.nil ?_
  refine EX.then_code ?_
  refine CW.seq ?_
  refine CW.seq ?_
  refine CW.region ?_
  refine WL.q (.int .i64 0) (by kernel_rfl) rfl (by kernel_rfl) (by kernel_rfl) ?_
  refine WL.nil ?_
  refine EX.then_code ?_
  refine CW.block ?_
  refine CW.loop (β := Nat × Option Addr × Nat) (fun x_ => [(0, (.slice a fs.length c)), (2, (.slice none 0 0)), (3, (.slice x_.2.1 ((fs.take x_.1).length) x_.2.2)), (4, (.int .i64 (x_.1 : Int)))]) (fun x_ w_ => ∃ h_ M0_, (PH.le h h_) ∧ (Wld K w_ h_ M0_) ∧ (Own 43 factE M M0_ x_.2.1 x_.2.2 (fs.take x_.1)) ∧ (∀ e_ ∈ (fs.take x_.1), factG h_ e_) ∧ (x_.1 ≤ fs.length)) (fun x_ => fs.length - x_.1) ⟨0, none, 0⟩ ⟨(by kernel_rfl), (by kernel_rfl), (by kernel_rfl), (lk_int (x := 0) (by kernel_rfl) (by first | omega | (dsimp only; done) | (dsimp only; omega))), trivial⟩ ⟨h, M, (PH.le_refl _), G, (Own.cast (Own.nil 43 factE M) (rfl)), (all_cast all_nil (rfl)), (by first | omega | assumption | (dsimp only [List.length_nil, List.length_append, List.length_cons]; omega))⟩ ?_
  rintro ⟨k, ao, co⟩ w75 ⟨h75, M0_75, l75, G75, o_out75, g_out75, hk⟩
  try dsimp only at *
  have htl : (fs.take k).length = k := by rw [List.length_take]; omega
  refine CW.seq ?_
  refine CW.seq ?_
  refine CW.region ?_
  refine WL.q (.int .i64 (k : Int)) (by kernel_rfl) rfl (by kernel_rfl) (by kernel_rfl) ?_
  refine WL.q (.slice a fs.length c) (by kernel_rfl) rfl (by kernel_rfl) (by kernel_rfl) ?_
  refine WL.q (.int .i64 (fs.length : Int)) (by kernel_rfl) rfl (by kernel_rfl) (by kernel_rfl) ?_
  refine WL.q (.bool (decide ((k : Int) < (fs.length : Int)))) (by kernel_rfl) rfl (by kernel_rfl) (by kernel_rfl) ?_
  refine WL.nil ?_
  refine EX.then_code ?_
  refine CW.cond (decide ((k : Int) < (fs.length : Int))) (by kernel_rfl) (by kernel_rfl) (fun c76 => ?_) (fun c76 => ?_)
  ·
    skip
    have d77 := of_decide_eq_true c76
    refine CW.skip ?_
    refine EX.then_code ?_
    refine CW.seq ?_
    refine CW.block ?_
    refine CW.draw (by kernel_rfl) [(5, fun w_ => RS (PH.all w_) factE a fs), (10, fun w_ => RS (PH.all w_) factE a fs), (15, fun w_ => RS (PH.all w_) factE a fs)] ?_
    refine DW.take (T := fun _ => True) 0 (.slice ao ((fs.take k).length) co) rfl (by kernel_rfl) rfl (by kernel_rfl) (.inl fun _ => trivial) (by kernel_rfl) (Deaf.block (Deaf.thens (Deaf.thens (Deaf.block (Deaf.thens (Deaf.body RetM.not_panicked)))))) (fun w_ _ => (by kernel_rfl)) trivial ?_
    refine DW.take (T := fun _ => True) 1 (.slice a fs.length c) rfl (by kernel_rfl) rfl (by kernel_rfl) (.inl fun _ => trivial) (by kernel_rfl) (Deaf.block (Deaf.thens (Deaf.thens (Deaf.block (Deaf.thens (Deaf.body RetM.not_panicked)))))) (fun w_ _ => (by kernel_rfl)) trivial ?_
    refine DW.take (T := fun _ => True) 2 (.int .i64 (k : Int)) rfl (by kernel_rfl) rfl (by kernel_rfl) (.inl fun _ => trivial) (by kernel_rfl) (Deaf.block (Deaf.thens (Deaf.thens (Deaf.block (Deaf.thens (Deaf.body RetM.not_panicked)))))) (fun w_ _ => (by kernel_rfl)) trivial ?_
    refine DW.take (T := fun _ => True) 3 (eptr a (k * factE.sz)) rfl (by kernel_rfl) rfl (by kernel_rfl) (.inl fun _ => trivial) (by kernel_rfl) (Deaf.block (Deaf.thens (Deaf.thens (Deaf.block (Deaf.thens (Deaf.body RetM.not_panicked)))))) (fun w_ _ => (q_indexAddr (i := k) (E := factE) (xs := fs) (e := 55) (c := c) (k := .i64) (m := fs.length) rfl rfl (by kernel_rfl) (by kernel_rfl) (by kernel_rfl) (Hf.mono (l75.trans (G75.drew).imm)) (by omega))) trivial ?_
    refine DW.take (T := fun _ => True) 4 (eptr a (k * factE.sz + 0)) rfl (by kernel_rfl) rfl (by kernel_rfl) (.inl fun _ => trivial) (by kernel_rfl) (Deaf.block (Deaf.thens (Deaf.thens (Deaf.block (Deaf.thens (Deaf.body RetM.not_panicked)))))) (fun w_ _ => (q_fieldAddr_e (i := k) (k := k * factE.sz) (off := 0) rfl (by kernel_rfl) (by kernel_rfl) (Hf.mono (l75.trans (G75.drew).imm)) (by omega))) trivial ?_
    refine DW.take (T := fun w_ => RS (PH.all w_) factE a fs) 5 (.int .i64 (((fs.getD k factE.dflt)).id)) rfl (by kernel_rfl) rfl (by kernel_rfl) (.inr (by simp only [List.mem_cons, true_or, or_true])) (by kernel_rfl) (Deaf.block (Deaf.thens (Deaf.thens (Deaf.block (Deaf.thens (Deaf.body RetM.not_panicked)))))) (fun w_ T_ => (q_load_e (i := k) (k := 0) (E := factE) rfl (by kernel_rfl) (by kernel_rfl) T_ (by omega) (by decide) (by kernel_rfl))) (Hf.mono (l75.trans (G75.drew).imm)) ?_
    refine DW.take (T := fun _ => True) 6 (.slice a fs.length c) rfl (by kernel_rfl) rfl (by kernel_rfl) (.inl fun _ => trivial) (by kernel_rfl) (Deaf.block (Deaf.thens (Deaf.thens (Deaf.block (Deaf.thens (Deaf.body RetM.not_panicked)))))) (fun w_ _ => (by kernel_rfl)) trivial ?_
    refine DW.take (T := fun _ => True) 7 (.int .i64 (k : Int)) rfl (by kernel_rfl) rfl (by kernel_rfl) (.inl fun _ => trivial) (by kernel_rfl) (Deaf.block (Deaf.thens (Deaf.thens (Deaf.block (Deaf.thens (Deaf.body RetM.not_panicked)))))) (fun w_ _ => (by kernel_rfl)) trivial ?_
    refine DW.take (T := fun _ => True) 8 (eptr a (k * factE.sz)) rfl (by kernel_rfl) rfl (by kernel_rfl) (.inl fun _ => trivial) (by kernel_rfl) (Deaf.block (Deaf.thens (Deaf.thens (Deaf.block (Deaf.thens (Deaf.body RetM.not_panicked)))))) (fun w_ _ => (q_indexAddr (i := k) (E := factE) (xs := fs) (e := 55) (c := c) (k := .i64) (m := fs.length) rfl rfl (by kernel_rfl) (by kernel_rfl) (by kernel_rfl) (Hf.mono (l75.trans (G75.drew).imm)) (by omega))) trivial ?_
    refine DW.take (T := fun _ => True) 9 (eptr a (k * factE.sz + 1)) rfl (by kernel_rfl) rfl (by kernel_rfl) (.inl fun _ => trivial) (by kernel_rfl) (Deaf.block (Deaf.thens (Deaf.thens (Deaf.block (Deaf.thens (Deaf.body RetM.not_panicked)))))) (fun w_ _ => (q_fieldAddr_e (i := k) (k := k * factE.sz) (off := 1) rfl (by kernel_rfl) (by kernel_rfl) (Hf.mono (l75.trans (G75.drew).imm)) (by omega))) trivial ?_
    refine DW.take (T := fun w_ => RS (PH.all w_) factE a fs) 10 (.string (((fs.getD k factE.dflt)).t)) rfl (by kernel_rfl) rfl (by kernel_rfl) (.inr (by simp only [List.mem_cons, true_or, or_true])) (by kernel_rfl) (Deaf.block (Deaf.thens (Deaf.thens (Deaf.block (Deaf.thens (Deaf.body RetM.not_panicked)))))) (fun w_ T_ => (q_load_e (i := k) (k := 1) (E := factE) rfl (by kernel_rfl) (by kernel_rfl) T_ (by omega) (by decide) (by kernel_rfl))) (Hf.mono (l75.trans (G75.drew).imm)) ?_
    refine DW.take (T := fun _ => True) 11 (.slice a fs.length c) rfl (by kernel_rfl) rfl (by kernel_rfl) (.inl fun _ => trivial) (by kernel_rfl) (Deaf.block (Deaf.thens (Deaf.thens (Deaf.block (Deaf.thens (Deaf.body RetM.not_panicked)))))) (fun w_ _ => (by kernel_rfl)) trivial ?_
    refine DW.take (T := fun _ => True) 12 (.int .i64 (k : Int)) rfl (by kernel_rfl) rfl (by kernel_rfl) (.inl fun _ => trivial) (by kernel_rfl) (Deaf.block (Deaf.thens (Deaf.thens (Deaf.block (Deaf.thens (Deaf.body RetM.not_panicked)))))) (fun w_ _ => (by kernel_rfl)) trivial ?_
    refine DW.take (T := fun _ => True) 13 (eptr a (k * factE.sz)) rfl (by kernel_rfl) rfl (by kernel_rfl) (.inl fun _ => trivial) (by kernel_rfl) (Deaf.block (Deaf.thens (Deaf.thens (Deaf.block (Deaf.thens (Deaf.body RetM.not_panicked)))))) (fun w_ _ => (q_indexAddr (i := k) (E := factE) (xs := fs) (e := 55) (c := c) (k := .i64) (m := fs.length) rfl rfl (by kernel_rfl) (by kernel_rfl) (by kernel_rfl) (Hf.mono (l75.trans (G75.drew).imm)) (by omega))) trivial ?_
    refine DW.take (T := fun _ => True) 14 (eptr a (k * factE.sz + 2)) rfl (by kernel_rfl) rfl (by kernel_rfl) (.inl fun _ => trivial) (by kernel_rfl) (Deaf.block (Deaf.thens (Deaf.thens (Deaf.block (Deaf.thens (Deaf.body RetM.not_panicked)))))) (fun w_ _ => (q_fieldAddr_e (i := k) (k := k * factE.sz) (off := 2) rfl (by kernel_rfl) (by kernel_rfl) (Hf.mono (l75.trans (G75.drew).imm)) (by omega))) trivial ?_
    refine DW.take (T := fun w_ => RS (PH.all w_) factE a fs) 15 (.slice (((fs.getD k factE.dflt)).a) (((fs.getD k factE.dflt)).vals.length) (((fs.getD k factE.dflt)).c)) rfl (by kernel_rfl) rfl (by kernel_rfl) (.inr (by simp only [List.mem_cons, true_or, or_true])) (by kernel_rfl) (Deaf.block (Deaf.thens (Deaf.thens (Deaf.block (Deaf.thens (Deaf.body RetM.not_panicked)))))) (fun w_ T_ => (q_load_e (i := k) (k := 2) (E := factE) rfl (by kernel_rfl) (by kernel_rfl) T_ (by omega) (by decide) (by kernel_rfl))) (Hf.mono (l75.trans (G75.drew).imm)) ?_
    refine DW.take (T := fun _ => True) 16 (.agg #[(.int .i64 (((fs.getD k factE.dflt)).id)), (.string (((fs.getD k factE.dflt)).t)), (.slice (((fs.getD k factE.dflt)).a) (((fs.getD k factE.dflt)).vals.length) (((fs.getD k factE.dflt)).c))]) rfl (by kernel_rfl) rfl (by kernel_rfl) (.inl fun _ => trivial) (by kernel_rfl) (Deaf.block (Deaf.thens (Deaf.thens (Deaf.block (Deaf.thens (Deaf.body RetM.not_panicked)))))) (fun w_ _ => (by kernel_rfl)) trivial ?_
    refine DW.only 17 (by kernel_rfl) ?_
    refine DOp.ex rfl (by kernel_rfl) rfl (by kernel_rfl) (q_newF (ob := (.cells #[(.int .i64 (((fs.getD k factE.dflt)).id)), (.string (((fs.getD k factE.dflt)).t)), (.slice (((fs.getD k factE.dflt)).a) (((fs.getD k factE.dflt)).vals.length) (((fs.getD k factE.dflt)).c))] 43 (0, 0))) (G75.drew) (fun b_ => .slice (some ⟨b_, 0, none⟩) 1 1) (fun u_ => by kernel_rfl)) (fun v_ w78 p_ => by obtain ⟨b78, h78, rfl, l78, G78, hb78, L78⟩ := p_; exact ⟨.inr (fun _ => (Hf.mono ((l75.trans l78).trans G78.imm))), .inr (fun _ => (Hf.mono ((l75.trans l78).trans G78.imm))), .inr (fun _ => (Hf.mono ((l75.trans l78).trans G78.imm))), trivial⟩) ?_
    rintro _ w78 ⟨b78, h78, rfl, l78, G78, hb78, L78⟩
    have r79 : RS h78 factE (some ⟨b78, 0, none⟩) [(FactD.mk (((fs.getD k factE.dflt)).id) (((fs.getD k factE.dflt)).t) (((fs.getD k factE.dflt)).a) (((fs.getD k factE.dflt)).vals) (((fs.getD k factE.dflt)).c))] := RS.blk hb78 (by kernel_rfl)
    have g79 : ∀ e_ ∈ [(FactD.mk (((fs.getD k factE.dflt)).id) (((fs.getD k factE.dflt)).t) (((fs.getD k factE.dflt)).a) (((fs.getD k factE.dflt)).vals) (((fs.getD k factE.dflt)).c))], factG h78 e_ := (all_one (show factG h78 (FactD.mk (((fs.getD k factE.dflt)).id) (((fs.getD k factE.dflt)).t) (((fs.getD k factE.dflt)).a) (((fs.getD k factE.dflt)).vals) (((fs.getD k factE.dflt)).c)) from ((Gf _ (getD_mem (by omega))).mono (l75.trans l78))))
    refine DW.only 18 (by kernel_rfl) ?_
    refine DOp.ex rfl (by kernel_rfl) rfl (by kernel_rfl) (q_app (e := 43) (bytes := 48) (cap := co) (c2 := 1) (M0 := M) (xs := (fs.take k)) (ys := ([(FactD.mk (((fs.getD k factE.dflt)).id) (((fs.getD k factE.dflt)).t) (((fs.getD k factE.dflt)).a) (((fs.getD k factE.dflt)).vals) (((fs.getD k factE.dflt)).c))])) G78 o_out75 (r79.mono ((PH.le_refl _).trans G78.imm)) rfl (by kernel_rfl) (by kernel_rfl) (by kernel_rfl) (by first | (simp only [maxLen, List.length_append, List.length_cons, List.length_nil]; omega) | (simp only [maxLen]; omega)) (by first | omega | (simp only [List.length_append, List.length_cons, List.length_nil]; omega))) (fun v_ w80 p_ => by obtain ⟨a80, k80, M80, rfl, G80, o80, z80⟩ := p_; exact ⟨.inr (fun _ => (Hf.mono ((l75.trans l78).trans G80.imm))), .inr (fun _ => (Hf.mono ((l75.trans l78).trans G80.imm))), .inr (fun _ => (Hf.mono ((l75.trans l78).trans G80.imm))), trivial⟩) ?_
    rintro _ w80 ⟨a80, k80, M80, rfl, G80, o80, z80⟩
    have g80 : ∀ e_ ∈ ((fs.take k) ++ ([(FactD.mk (((fs.getD k factE.dflt)).id) (((fs.getD k factE.dflt)).t) (((fs.getD k factE.dflt)).a) (((fs.getD k factE.dflt)).vals) (((fs.getD k factE.dflt)).c))])), factG h78 e_ := all_app (all_up @factG.mono l78 g_out75) g79
    refine DW.take (T := fun _ => True) 19 (.slice a80 (((fs.take k) ++ ([(FactD.mk (((fs.getD k factE.dflt)).id) (((fs.getD k factE.dflt)).t) (((fs.getD k factE.dflt)).a) (((fs.getD k factE.dflt)).vals) (((fs.getD k factE.dflt)).c))])).length) k80) rfl (by kernel_rfl) rfl (by kernel_rfl) (.inl fun _ => trivial) (by kernel_rfl) (Deaf.block (Deaf.thens (Deaf.thens (Deaf.block (Deaf.thens (Deaf.body RetM.not_panicked)))))) (fun w_ _ => (by kernel_rfl)) trivial ?_
    refine DW.done (by kernel_rfl) ?_
    refine EX.in_block ?_
    refine EX.then_code ?_
    refine CW.region ?_
    refine WL.q (.int .i64 (k : Int)) (by kernel_rfl) rfl (by kernel_rfl) (by kernel_rfl) ?_
    refine WL.q (.int .i64 ((k + 1 : Nat) : Int)) (by kernel_rfl) rfl (by kernel_rfl) (q_int (x := IntKind.i64.wrap ((k : Int) + 1)) (by kernel_rfl) (wrap_to (by omega) (by omega) (by omega))) ?_
    refine WL.q (.int .i64 ((k + 1 : Nat) : Int)) (by kernel_rfl) rfl (by kernel_rfl) (by kernel_rfl) ?_
    refine WL.nil ?_
    exact EX.then_loop ⟨k + 1, a80, k80⟩ ⟨(by kernel_rfl), (by kernel_rfl), (lk_val (x := (.slice a80 (((fs.take k) ++ ([(FactD.mk (((fs.getD k factE.dflt)).id) (((fs.getD k factE.dflt)).t) (((fs.getD k factE.dflt)).a) (((fs.getD k factE.dflt)).vals) (((fs.getD k factE.dflt)).c))])).length) k80)) (by kernel_rfl) (by first | (rw [take_one fs (k := k) (by omega)]; done) | (rw [← take_one fs (k := k) (by omega)]; done) | (simp only [take_one fs (k := k) (by omega)]; done))), (lk_int (x := ((k + 1 : Nat) : Int)) (by kernel_rfl) (by first | omega | (dsimp only; done) | (dsimp only; omega))), trivial⟩ ⟨h78, M80, (l75.trans l78), G80, (Own.cast o80 (take_one fs (k := k) (by omega))), (all_cast g80 (take_one fs (k := k) (by omega))), (by first | omega | assumption | (dsimp only [List.length_nil, List.length_append, List.length_cons]; omega))⟩ (by first | omega | (dsimp only; omega))
  ·
    skip
    have d81 := of_decide_eq_false c76
    refine CW.exit ?_
    refine EX.exit_then ?_
    refine EX.exit_then ?_
    refine EX.exit_here ?_
    refine EX.then_code ?_
    refine CW.seq ?_
    refine CW.region ?_
    refine WL.q (.slice ao ((fs.take k).length) co) (by kernel_rfl) rfl (by kernel_rfl) (by kernel_rfl) ?_
    refine WL.q (.slice ao ((fs.take k).length) co) (by kernel_rfl) rfl (by kernel_rfl) (by kernel_rfl) ?_
    refine WL.nil ?_
    refine EX.then_code ?_
    refine CW.ret ?_
    refine EX.ret1 (v := (.slice ao ((fs.take k).length) co)) rfl (by kernel_rfl) ?_
    obtain rfl : k = fs.length := by omega
    obtain ⟨h82, l82, G82, r82⟩ := o_out75.freeze G75
    exact Ret.mk (l75.trans l82) G82 (⟨ao, co, by rw [List.take_length], by have q_ := r82; rwa [List.take_length] at q_⟩)

theorem dat_eq {a b : FactD} (h1 : a.id = b.id) (h2 : a.t = b.t) (h3 : rowsV a.vals b.vals = true) : dat a = dat b := by
  have := of_decide_eq_true h3
  simp [dat, h1, h2, this]
def sameF (xs ys : List FactD) : Bool := decide (xs.map dat = ys.map dat)
theorem sameF_t {xs ys : List FactD} (hl : xs.length = ys.length) (h : ∀ j < xs.length, dat (xs.getD j factE.dflt) = dat (ys.getD j factE.dflt)) : sameF xs ys = true := by
  refine decide_eq_true (List.ext_getElem (by simpa using hl) fun j h1 h2 => ?_)
  simp only [List.length_map] at h1 h2
  have := h j h1
  simpa [List.getD, h1, h2] using this
theorem sameF_f {xs ys : List FactD} (h : xs.length ≠ ys.length ∨ ∃ k, k < xs.length ∧ k < ys.length ∧ dat (xs.getD k factE.dflt) ≠ dat (ys.getD k factE.dflt)) : sameF xs ys = false := by
  refine decide_eq_false fun e => ?_
  rcases h with h | ⟨k, h1, h2, h⟩
  · exact h (by simpa using congrArg List.length e)
  · have := congrArg (fun l => l[k]?) e
    simp only [List.getElem?_map, List.getElem?_eq_getElem h1, List.getElem?_eq_getElem h2, Option.map_some, Option.some.injEq] at this
    exact h (by simpa [List.getD, h1, h2] using this)

theorem sameF_spec {K : Key} {w : World} {h M : PH} (G : Wld K w h M) {ax ay : Option Addr} {xs ys : List FactD} {cx cy : Nat} (Hx : RS h factE ax xs) (Gx : ∀ f ∈ xs, factG h f) (Hy : RS h factE ay ys) (Gy : ∀ f ∈ ys, factG h f) (hb : xs.length ≤ 1000000) (hv : ∀ f ∈ xs, f.vals.length ≤ 1000000) :
    Calls Tryd.prog 15 #[.slice ax xs.length cx, .slice ay ys.length cy] w (Ret K h M fun _ v => v = .bool (sameF xs ys)) := by
  refine enter (l := [(.slice ax xs.length cx), (.slice ay ys.length cy)]) Tryd.func15 rfl Tryd.ntmps15 (Nat.le_of_ble_eq_true rfl) ?_
  simp only [params]
  refine CW.seq ?_
  refine CW.region ?_
  refine WL.q (.bool false) (by kernel_rfl) rfl (by kernel_rfl) (by kernel_rfl) ?_
  refine WL.nil ?_
  refine EX.then_code ?_
  refine CW.seq ?_
  refine CW.seq ?_
  refine CW.region ?_
  refine WL.q (.slice ax xs.length cx) (by kernel_rfl) rfl (by kernel_rfl) (by kernel_rfl) ?_
  refine WL.q (.int .i64 (xs.length : Int)) (by kernel_rfl) rfl (by kernel_rfl) (by kernel_rfl) ?_
  refine WL.q (.slice ay ys.length cy) (by kernel_rfl) rfl (by kernel_rfl) (by kernel_rfl) ?_
  refine WL.q (.int .i64 (ys.length : Int)) (by kernel_rfl) rfl (by kernel_rfl) (by kernel_rfl) ?_
  refine WL.q (.bool (((xs.length : Int) : Int) != (ys.length : Int))) (by kernel_rfl) rfl (by kernel_rfl) (by kernel_rfl) ?_
  refine WL.nil ?_
  refine EX.then_code ?_
  refine CW.cond (((xs.length : Int) : Int) != (ys.length : Int)) (by kernel_rfl) (by kernel_rfl) (fun c83 => ?_) (fun c83 => ?_)
  ·
    skip
    have d84 := bne_true c83
    refine CW.seq ?_
    refine CW.region ?_
    refine WL.q (.bool false) (by kernel_rfl) rfl (by kernel_rfl) (by kernel_rfl) ?_
    refine WL.nil ?_
    refine EX.then_code ?_
    refine CW.ret ?_
    refine EX.ret_then ?_
    refine EX.ret1 (v := (.bool false)) rfl (by kernel_rfl) ?_
    exact Ret.mk (PH.le_refl _) G (congrArg Value.bool (sameF_f (by first | exact .inl (by omega) | exact .inr ⟨k, by omega, by omega, fun e_ => by simp only [dat, Prod.mk.injEq] at e_; omega⟩)).symm)
  ·
    skip
    have d85 := bne_false c83
    refine CW.skip ?_
    refine EX.then_code ?_
    refine CW.seq ?_
    refine CW.seq ?_
    refine CW.region ?_
    refine WL.q (.int .i64 0) (by kernel_rfl) rfl (by kernel_rfl) (by kernel_rfl) ?_
    refine WL.nil ?_
    refine EX.then_code ?_
    refine CW.block ?_
    refine CW.loop (β := Nat) (fun x_ => [(0, (.slice ax xs.length cx)), (1, (.slice ay ys.length cy)), (5, (.int .i64 (x_ : Int)))]) (fun x_ w_ => ∃ h_, (PH.le h h_) ∧ (Wld K w_ h_ M) ∧ (x_ ≤ xs.length) ∧ (∀ j < x_, dat (xs.getD j factE.dflt) = dat (ys.getD j factE.dflt))) (fun x_ => xs.length - x_) 0 ⟨(by kernel_rfl), (by kernel_rfl), (lk_int (x := 0) (by kernel_rfl) (by first | omega | (dsimp only; done) | (dsimp only; omega))), trivial⟩ ⟨h, (PH.le_refl _), G, (by first | omega | assumption | (dsimp only [List.length_nil, List.length_append, List.length_cons]; omega)), (by simp)⟩ ?_
    rintro k w86 ⟨h86, l86, G86, hk, hn⟩
    try dsimp only at *
    refine CW.seq ?_
    refine CW.seq ?_
    refine CW.region ?_
    refine WL.q (.int .i64 (k : Int)) (by kernel_rfl) rfl (by kernel_rfl) (by kernel_rfl) ?_
    refine WL.q (.slice ax xs.length cx) (by kernel_rfl) rfl (by kernel_rfl) (by kernel_rfl) ?_
    refine WL.q (.int .i64 (xs.length : Int)) (by kernel_rfl) rfl (by kernel_rfl) (by kernel_rfl) ?_
    refine WL.q (.bool (decide ((k : Int) < (xs.length : Int)))) (by kernel_rfl) rfl (by kernel_rfl) (by kernel_rfl) ?_
    refine WL.nil ?_
    refine EX.then_code ?_
    refine CW.cond (decide ((k : Int) < (xs.length : Int))) (by kernel_rfl) (by kernel_rfl) (fun c87 => ?_) (fun c87 => ?_)
    ·
      skip
      have d88 := of_decide_eq_true c87
      refine CW.skip ?_
      refine EX.then_code ?_
      refine CW.seq ?_
      refine CW.block ?_
      refine CW.seq ?_
      refine CW.draw (by kernel_rfl) [(4, fun w_ => RS (PH.all w_) factE ax xs), (9, fun w_ => RS (PH.all w_) factE ay ys), (16, fun w_ => RS (PH.all w_) factE ax xs), (21, fun w_ => RS (PH.all w_) factE ay ys), (29, fun w_ => RS (PH.all w_) factE ax xs), (34, fun w_ => RS (PH.all w_) factE ay ys)] ?_
      refine DW.take (T := fun _ => True) 0 (.slice ax xs.length cx) rfl (by kernel_rfl) rfl (by kernel_rfl) (.inl fun _ => trivial) (by kernel_rfl) (Deaf.thens (Deaf.block (Deaf.thens (Deaf.thens (Deaf.block (Deaf.thens (Deaf.body RetM.not_panicked))))))) (fun w_ _ => (by kernel_rfl)) trivial ?_
      refine DW.take (T := fun _ => True) 1 (.int .i64 (k : Int)) rfl (by kernel_rfl) rfl (by kernel_rfl) (.inl fun _ => trivial) (by kernel_rfl) (Deaf.thens (Deaf.block (Deaf.thens (Deaf.thens (Deaf.block (Deaf.thens (Deaf.body RetM.not_panicked))))))) (fun w_ _ => (by kernel_rfl)) trivial ?_
      refine DW.take (T := fun _ => True) 2 (eptr ax (k * factE.sz)) rfl (by kernel_rfl) rfl (by kernel_rfl) (.inl fun _ => trivial) (by kernel_rfl) (Deaf.thens (Deaf.block (Deaf.thens (Deaf.thens (Deaf.block (Deaf.thens (Deaf.body RetM.not_panicked))))))) (fun w_ _ => (q_indexAddr (i := k) (E := factE) (xs := xs) (e := 43) (c := cx) (k := .i64) (m := xs.length) rfl rfl (by kernel_rfl) (by kernel_rfl) (by kernel_rfl) (Hx.mono (l86.trans (G86.drew).imm)) (by omega))) trivial ?_
      refine DW.take (T := fun _ => True) 3 (eptr ax (k * factE.sz + 0)) rfl (by kernel_rfl) rfl (by kernel_rfl) (.inl fun _ => trivial) (by kernel_rfl) (Deaf.thens (Deaf.block (Deaf.thens (Deaf.thens (Deaf.block (Deaf.thens (Deaf.body RetM.not_panicked))))))) (fun w_ _ => (q_fieldAddr_e (i := k) (k := k * factE.sz) (off := 0) rfl (by kernel_rfl) (by kernel_rfl) (Hx.mono (l86.trans (G86.drew).imm)) (by omega))) trivial ?_
      refine DW.take (T := fun w_ => RS (PH.all w_) factE ax xs) 4 (.int .i64 (((xs.getD k factE.dflt)).id)) rfl (by kernel_rfl) rfl (by kernel_rfl) (.inr (by simp only [List.mem_cons, true_or, or_true])) (by kernel_rfl) (Deaf.thens (Deaf.block (Deaf.thens (Deaf.thens (Deaf.block (Deaf.thens (Deaf.body RetM.not_panicked))))))) (fun w_ T_ => (q_load_e (i := k) (k := 0) (E := factE) rfl (by kernel_rfl) (by kernel_rfl) T_ (by omega) (by decide) (by kernel_rfl))) (Hx.mono (l86.trans (G86.drew).imm)) ?_
      refine DW.take (T := fun _ => True) 5 (.slice ay ys.length cy) rfl (by kernel_rfl) rfl (by kernel_rfl) (.inl fun _ => trivial) (by kernel_rfl) (Deaf.thens (Deaf.block (Deaf.thens (Deaf.thens (Deaf.block (Deaf.thens (Deaf.body RetM.not_panicked))))))) (fun w_ _ => (by kernel_rfl)) trivial ?_
      refine DW.take (T := fun _ => True) 6 (.int .i64 (k : Int)) rfl (by kernel_rfl) rfl (by kernel_rfl) (.inl fun _ => trivial) (by kernel_rfl) (Deaf.thens (Deaf.block (Deaf.thens (Deaf.thens (Deaf.block (Deaf.thens (Deaf.body RetM.not_panicked))))))) (fun w_ _ => (by kernel_rfl)) trivial ?_
      refine DW.take (T := fun _ => True) 7 (eptr ay (k * factE.sz)) rfl (by kernel_rfl) rfl (by kernel_rfl) (.inl fun _ => trivial) (by kernel_rfl) (Deaf.thens (Deaf.block (Deaf.thens (Deaf.thens (Deaf.block (Deaf.thens (Deaf.body RetM.not_panicked))))))) (fun w_ _ => (q_indexAddr (i := k) (E := factE) (xs := ys) (e := 43) (c := cy) (k := .i64) (m := ys.length) rfl rfl (by kernel_rfl) (by kernel_rfl) (by kernel_rfl) (Hy.mono (l86.trans (G86.drew).imm)) (by omega))) trivial ?_
      refine DW.take (T := fun _ => True) 8 (eptr ay (k * factE.sz + 0)) rfl (by kernel_rfl) rfl (by kernel_rfl) (.inl fun _ => trivial) (by kernel_rfl) (Deaf.thens (Deaf.block (Deaf.thens (Deaf.thens (Deaf.block (Deaf.thens (Deaf.body RetM.not_panicked))))))) (fun w_ _ => (q_fieldAddr_e (i := k) (k := k * factE.sz) (off := 0) rfl (by kernel_rfl) (by kernel_rfl) (Hy.mono (l86.trans (G86.drew).imm)) (by omega))) trivial ?_
      refine DW.take (T := fun w_ => RS (PH.all w_) factE ay ys) 9 (.int .i64 (((ys.getD k factE.dflt)).id)) rfl (by kernel_rfl) rfl (by kernel_rfl) (.inr (by simp only [List.mem_cons, true_or, or_true])) (by kernel_rfl) (Deaf.thens (Deaf.block (Deaf.thens (Deaf.thens (Deaf.block (Deaf.thens (Deaf.body RetM.not_panicked))))))) (fun w_ T_ => (q_load_e (i := k) (k := 0) (E := factE) rfl (by kernel_rfl) (by kernel_rfl) T_ (by omega) (by decide) (by kernel_rfl))) (Hy.mono (l86.trans (G86.drew).imm)) ?_
      refine DW.take (T := fun _ => True) 10 (.bool ((((xs.getD k factE.dflt)).id : Int) != ((ys.getD k factE.dflt)).id)) rfl (by kernel_rfl) rfl (by kernel_rfl) (.inl fun _ => trivial) (by kernel_rfl) (Deaf.thens (Deaf.block (Deaf.thens (Deaf.thens (Deaf.block (Deaf.thens (Deaf.body RetM.not_panicked))))))) (fun w_ _ => (by kernel_rfl)) trivial ?_
      refine DW.take (T := fun _ => True) 11 (.bool ((((xs.getD k factE.dflt)).id : Int) != ((ys.getD k factE.dflt)).id)) rfl (by kernel_rfl) rfl (by kernel_rfl) (.inl fun _ => trivial) (by kernel_rfl) (Deaf.thens (Deaf.block (Deaf.thens (Deaf.thens (Deaf.block (Deaf.thens (Deaf.body RetM.not_panicked))))))) (fun w_ _ => (by kernel_rfl)) trivial ?_
      rcases bool_cases ((((xs.getD k factE.dflt)).id : Int) != ((ys.getD k factE.dflt)).id) with c89 | c89
      ·
        skip
        have d90 := bne_true c89
        refine DW.know 28 (.bool true) (x := .bool ((((xs.getD k factE.dflt)).id : Int) != ((ys.getD k factE.dflt)).id)) (by kernel_rfl) (congrArg Value.bool c89) ?_
        refine DW.skip 12 rfl (by kernel_rfl) rfl (by kernel_rfl) (by kernel_rfl) (Deaf.thens (Deaf.block (Deaf.thens (Deaf.thens (Deaf.block (Deaf.thens (Deaf.body RetM.not_panicked))))))) ?_
        refine DW.skip 13 rfl (by kernel_rfl) rfl (by kernel_rfl) (by kernel_rfl) (Deaf.thens (Deaf.block (Deaf.thens (Deaf.thens (Deaf.block (Deaf.thens (Deaf.body RetM.not_panicked))))))) ?_
        refine DW.skip 14 rfl (by kernel_rfl) rfl (by kernel_rfl) (by kernel_rfl) (Deaf.thens (Deaf.block (Deaf.thens (Deaf.thens (Deaf.block (Deaf.thens (Deaf.body RetM.not_panicked))))))) ?_
        refine DW.skip 15 rfl (by kernel_rfl) rfl (by kernel_rfl) (by kernel_rfl) (Deaf.thens (Deaf.block (Deaf.thens (Deaf.thens (Deaf.block (Deaf.thens (Deaf.body RetM.not_panicked))))))) ?_
        refine DW.skip 16 rfl (by kernel_rfl) rfl (by kernel_rfl) (by kernel_rfl) (Deaf.thens (Deaf.block (Deaf.thens (Deaf.thens (Deaf.block (Deaf.thens (Deaf.body RetM.not_panicked))))))) ?_
        refine DW.skip 17 rfl (by kernel_rfl) rfl (by kernel_rfl) (by kernel_rfl) (Deaf.thens (Deaf.block (Deaf.thens (Deaf.thens (Deaf.block (Deaf.thens (Deaf.body RetM.not_panicked))))))) ?_
        refine DW.skip 18 rfl (by kernel_rfl) rfl (by kernel_rfl) (by kernel_rfl) (Deaf.thens (Deaf.block (Deaf.thens (Deaf.thens (Deaf.block (Deaf.thens (Deaf.body RetM.not_panicked))))))) ?_
        refine DW.skip 19 rfl (by kernel_rfl) rfl (by kernel_rfl) (by kernel_rfl) (Deaf.thens (Deaf.block (Deaf.thens (Deaf.thens (Deaf.block (Deaf.thens (Deaf.body RetM.not_panicked))))))) ?_
        refine DW.skip 20 rfl (by kernel_rfl) rfl (by kernel_rfl) (by kernel_rfl) (Deaf.thens (Deaf.block (Deaf.thens (Deaf.thens (Deaf.block (Deaf.thens (Deaf.body RetM.not_panicked))))))) ?_
        refine DW.skip 21 rfl (by kernel_rfl) rfl (by kernel_rfl) (by kernel_rfl) (Deaf.thens (Deaf.block (Deaf.thens (Deaf.thens (Deaf.block (Deaf.thens (Deaf.body RetM.not_panicked))))))) ?_
        refine DW.skip 22 rfl (by kernel_rfl) rfl (by kernel_rfl) (by kernel_rfl) (Deaf.thens (Deaf.block (Deaf.thens (Deaf.thens (Deaf.block (Deaf.thens (Deaf.body RetM.not_panicked))))))) ?_
        refine DW.take (T := fun _ => True) 23 (.bool true) rfl (by kernel_rfl) rfl (by kernel_rfl) (.inl fun _ => trivial) (by kernel_rfl) (Deaf.thens (Deaf.block (Deaf.thens (Deaf.thens (Deaf.block (Deaf.thens (Deaf.body RetM.not_panicked))))))) (fun w_ _ => (by kernel_rfl)) trivial ?_
        refine DW.take (T := fun _ => True) 24 (.bool true) rfl (by kernel_rfl) rfl (by kernel_rfl) (.inl fun _ => trivial) (by kernel_rfl) (Deaf.thens (Deaf.block (Deaf.thens (Deaf.thens (Deaf.block (Deaf.thens (Deaf.body RetM.not_panicked))))))) (fun w_ _ => (by kernel_rfl)) trivial ?_
        refine DW.skip 25 rfl (by kernel_rfl) rfl (by kernel_rfl) (by kernel_rfl) (Deaf.thens (Deaf.block (Deaf.thens (Deaf.thens (Deaf.block (Deaf.thens (Deaf.body RetM.not_panicked))))))) ?_
        refine DW.skip 26 rfl (by kernel_rfl) rfl (by kernel_rfl) (by kernel_rfl) (Deaf.thens (Deaf.block (Deaf.thens (Deaf.thens (Deaf.block (Deaf.thens (Deaf.body RetM.not_panicked))))))) ?_
        refine DW.skip 27 rfl (by kernel_rfl) rfl (by kernel_rfl) (by kernel_rfl) (Deaf.thens (Deaf.block (Deaf.thens (Deaf.thens (Deaf.block (Deaf.thens (Deaf.body RetM.not_panicked))))))) ?_
        refine DW.skip 28 rfl (by kernel_rfl) rfl (by kernel_rfl) (by kernel_rfl) (Deaf.thens (Deaf.block (Deaf.thens (Deaf.thens (Deaf.block (Deaf.thens (Deaf.body RetM.not_panicked))))))) ?_
        refine DW.skip 29 rfl (by kernel_rfl) rfl (by kernel_rfl) (by kernel_rfl) (Deaf.thens (Deaf.block (Deaf.thens (Deaf.thens (Deaf.block (Deaf.thens (Deaf.body RetM.not_panicked))))))) ?_
        refine DW.skip 30 rfl (by kernel_rfl) rfl (by kernel_rfl) (by kernel_rfl) (Deaf.thens (Deaf.block (Deaf.thens (Deaf.thens (Deaf.block (Deaf.thens (Deaf.body RetM.not_panicked))))))) ?_
        refine DW.skip 31 rfl (by kernel_rfl) rfl (by kernel_rfl) (by kernel_rfl) (Deaf.thens (Deaf.block (Deaf.thens (Deaf.thens (Deaf.block (Deaf.thens (Deaf.body RetM.not_panicked))))))) ?_
        refine DW.skip 32 rfl (by kernel_rfl) rfl (by kernel_rfl) (by kernel_rfl) (Deaf.thens (Deaf.block (Deaf.thens (Deaf.thens (Deaf.block (Deaf.thens (Deaf.body RetM.not_panicked))))))) ?_
        refine DW.skip 33 rfl (by kernel_rfl) rfl (by kernel_rfl) (by kernel_rfl) (Deaf.thens (Deaf.block (Deaf.thens (Deaf.thens (Deaf.block (Deaf.thens (Deaf.body RetM.not_panicked))))))) ?_
        refine DW.skip 34 rfl (by kernel_rfl) rfl (by kernel_rfl) (by kernel_rfl) (Deaf.thens (Deaf.block (Deaf.thens (Deaf.thens (Deaf.block (Deaf.thens (Deaf.body RetM.not_panicked))))))) ?_
        refine DW.skip 35 rfl (by kernel_rfl) rfl (by kernel_rfl) (by kernel_rfl) (Deaf.thens (Deaf.block (Deaf.thens (Deaf.thens (Deaf.block (Deaf.thens (Deaf.body RetM.not_panicked))))))) ?_
        refine DW.skip 36 rfl (by kernel_rfl) rfl (by kernel_rfl) (by kernel_rfl) (Deaf.thens (Deaf.block (Deaf.thens (Deaf.thens (Deaf.block (Deaf.thens (Deaf.body RetM.not_panicked))))))) ?_
        refine DW.take (T := fun _ => True) 37 (.bool true) rfl (by kernel_rfl) rfl (by kernel_rfl) (.inl fun _ => trivial) (by kernel_rfl) (Deaf.thens (Deaf.block (Deaf.thens (Deaf.thens (Deaf.block (Deaf.thens (Deaf.body RetM.not_panicked))))))) (fun w_ _ => (by kernel_rfl)) trivial ?_
        refine DW.done (by kernel_rfl) ?_
        refine EX.then_code ?_
        refine CW.cond_t (by kernel_rfl) (by kernel_rfl) ?_
        refine CW.seq ?_
        refine CW.region ?_
        refine WL.q (.bool false) (by kernel_rfl) rfl (by kernel_rfl) (by kernel_rfl) ?_
        refine WL.nil ?_
        refine EX.then_code ?_
        refine CW.ret ?_
        refine EX.ret_block ?_
        refine EX.ret_then ?_
        refine EX.ret_then ?_
        refine EX.ret_block ?_
        refine EX.ret_then ?_
        refine EX.ret1 (v := (.bool false)) rfl (by kernel_rfl) ?_
        exact Ret.mk l86 (G86.drew) (congrArg Value.bool (sameF_f (by first | exact .inl (by omega) | exact .inr ⟨k, by omega, by omega, fun e_ => by simp only [dat, Prod.mk.injEq] at e_; omega⟩)).symm)
      ·
        skip
        have d91 := bne_false c89
        refine DW.know 28 (.bool false) (x := .bool ((((xs.getD k factE.dflt)).id : Int) != ((ys.getD k factE.dflt)).id)) (by kernel_rfl) (congrArg Value.bool c89) ?_
        refine DW.take (T := fun _ => True) 12 (.slice ax xs.length cx) rfl (by kernel_rfl) rfl (by kernel_rfl) (.inl fun _ => trivial) (by kernel_rfl) (Deaf.thens (Deaf.block (Deaf.thens (Deaf.thens (Deaf.block (Deaf.thens (Deaf.body RetM.not_panicked))))))) (fun w_ _ => (by kernel_rfl)) trivial ?_
        refine DW.take (T := fun _ => True) 13 (.int .i64 (k : Int)) rfl (by kernel_rfl) rfl (by kernel_rfl) (.inl fun _ => trivial) (by kernel_rfl) (Deaf.thens (Deaf.block (Deaf.thens (Deaf.thens (Deaf.block (Deaf.thens (Deaf.body RetM.not_panicked))))))) (fun w_ _ => (by kernel_rfl)) trivial ?_
        refine DW.take (T := fun _ => True) 14 (eptr ax (k * factE.sz)) rfl (by kernel_rfl) rfl (by kernel_rfl) (.inl fun _ => trivial) (by kernel_rfl) (Deaf.thens (Deaf.block (Deaf.thens (Deaf.thens (Deaf.block (Deaf.thens (Deaf.body RetM.not_panicked))))))) (fun w_ _ => (q_indexAddr (i := k) (E := factE) (xs := xs) (e := 43) (c := cx) (k := .i64) (m := xs.length) rfl rfl (by kernel_rfl) (by kernel_rfl) (by kernel_rfl) (Hx.mono (l86.trans (G86.drew).imm)) (by omega))) trivial ?_
        refine DW.take (T := fun _ => True) 15 (eptr ax (k * factE.sz + 1)) rfl (by kernel_rfl) rfl (by kernel_rfl) (.inl fun _ => trivial) (by kernel_rfl) (Deaf.thens (Deaf.block (Deaf.thens (Deaf.thens (Deaf.block (Deaf.thens (Deaf.body RetM.not_panicked))))))) (fun w_ _ => (q_fieldAddr_e (i := k) (k := k * factE.sz) (off := 1) rfl (by kernel_rfl) (by kernel_rfl) (Hx.mono (l86.trans (G86.drew).imm)) (by omega))) trivial ?_
        refine DW.take (T := fun w_ => RS (PH.all w_) factE ax xs) 16 (.string (((xs.getD k factE.dflt)).t)) rfl (by kernel_rfl) rfl (by kernel_rfl) (.inr (by simp only [List.mem_cons, true_or, or_true])) (by kernel_rfl) (Deaf.thens (Deaf.block (Deaf.thens (Deaf.thens (Deaf.block (Deaf.thens (Deaf.body RetM.not_panicked))))))) (fun w_ T_ => (q_load_e (i := k) (k := 1) (E := factE) rfl (by kernel_rfl) (by kernel_rfl) T_ (by omega) (by decide) (by kernel_rfl))) (Hx.mono (l86.trans (G86.drew).imm)) ?_
        refine DW.take (T := fun _ => True) 17 (.slice ay ys.length cy) rfl (by kernel_rfl) rfl (by kernel_rfl) (.inl fun _ => trivial) (by kernel_rfl) (Deaf.thens (Deaf.block (Deaf.thens (Deaf.thens (Deaf.block (Deaf.thens (Deaf.body RetM.not_panicked))))))) (fun w_ _ => (by kernel_rfl)) trivial ?_
        refine DW.take (T := fun _ => True) 18 (.int .i64 (k : Int)) rfl (by kernel_rfl) rfl (by kernel_rfl) (.inl fun _ => trivial) (by kernel_rfl) (Deaf.thens (Deaf.block (Deaf.thens (Deaf.thens (Deaf.block (Deaf.thens (Deaf.body RetM.not_panicked))))))) (fun w_ _ => (by kernel_rfl)) trivial ?_
        refine DW.take (T := fun _ => True) 19 (eptr ay (k * factE.sz)) rfl (by kernel_rfl) rfl (by kernel_rfl) (.inl fun _ => trivial) (by kernel_rfl) (Deaf.thens (Deaf.block (Deaf.thens (Deaf.thens (Deaf.block (Deaf.thens (Deaf.body RetM.not_panicked))))))) (fun w_ _ => (q_indexAddr (i := k) (E := factE) (xs := ys) (e := 43) (c := cy) (k := .i64) (m := ys.length) rfl rfl (by kernel_rfl) (by kernel_rfl) (by kernel_rfl) (Hy.mono (l86.trans (G86.drew).imm)) (by omega))) trivial ?_
        refine DW.take (T := fun _ => True) 20 (eptr ay (k * factE.sz + 1)) rfl (by kernel_rfl) rfl (by kernel_rfl) (.inl fun _ => trivial) (by kernel_rfl) (Deaf.thens (Deaf.block (Deaf.thens (Deaf.thens (Deaf.block (Deaf.thens (Deaf.body RetM.not_panicked))))))) (fun w_ _ => (q_fieldAddr_e (i := k) (k := k * factE.sz) (off := 1) rfl (by kernel_rfl) (by kernel_rfl) (Hy.mono (l86.trans (G86.drew).imm)) (by omega))) trivial ?_
        refine DW.take (T := fun w_ => RS (PH.all w_) factE ay ys) 21 (.string (((ys.getD k factE.dflt)).t)) rfl (by kernel_rfl) rfl (by kernel_rfl) (.inr (by simp only [List.mem_cons, true_or, or_true])) (by kernel_rfl) (Deaf.thens (Deaf.block (Deaf.thens (Deaf.thens (Deaf.block (Deaf.thens (Deaf.body RetM.not_panicked))))))) (fun w_ T_ => (q_load_e (i := k) (k := 1) (E := factE) rfl (by kernel_rfl) (by kernel_rfl) T_ (by omega) (by decide) (by kernel_rfl))) (Hy.mono (l86.trans (G86.drew).imm)) ?_
        refine DW.take (T := fun _ => True) 22 (.bool (!(sameS (((xs.getD k factE.dflt)).t) (((ys.getD k factE.dflt)).t)))) rfl (by kernel_rfl) rfl (by kernel_rfl) (.inl fun _ => trivial) (by kernel_rfl) (Deaf.thens (Deaf.block (Deaf.thens (Deaf.thens (Deaf.block (Deaf.thens (Deaf.body RetM.not_panicked))))))) (fun w_ _ => (by kernel_rfl)) trivial ?_
        refine DW.take (T := fun _ => True) 23 (.bool (!(sameS (((xs.getD k factE.dflt)).t) (((ys.getD k factE.dflt)).t)))) rfl (by kernel_rfl) rfl (by kernel_rfl) (.inl fun _ => trivial) (by kernel_rfl) (Deaf.thens (Deaf.block (Deaf.thens (Deaf.thens (Deaf.block (Deaf.thens (Deaf.body RetM.not_panicked))))))) (fun w_ _ => (by kernel_rfl)) trivial ?_
        refine DW.take (T := fun _ => True) 24 (.bool (!(sameS (((xs.getD k factE.dflt)).t) (((ys.getD k factE.dflt)).t)))) rfl (by kernel_rfl) rfl (by kernel_rfl) (.inl fun _ => trivial) (by kernel_rfl) (Deaf.thens (Deaf.block (Deaf.thens (Deaf.thens (Deaf.block (Deaf.thens (Deaf.body RetM.not_panicked))))))) (fun w_ _ => (by kernel_rfl)) trivial ?_
        rcases bool_cases (!(sameS (((xs.getD k factE.dflt)).t) (((ys.getD k factE.dflt)).t))) with c92 | c92
        ·
          skip
          have d93 := not_true c92
          have d94 := sameS_ne d93
          refine DW.know 41 (.bool true) (x := .bool (!(sameS (((xs.getD k factE.dflt)).t) (((ys.getD k factE.dflt)).t)))) (by kernel_rfl) (congrArg Value.bool c92) ?_
          refine DW.skip 25 rfl (by kernel_rfl) rfl (by kernel_rfl) (by kernel_rfl) (Deaf.thens (Deaf.block (Deaf.thens (Deaf.thens (Deaf.block (Deaf.thens (Deaf.body RetM.not_panicked))))))) ?_
          refine DW.skip 26 rfl (by kernel_rfl) rfl (by kernel_rfl) (by kernel_rfl) (Deaf.thens (Deaf.block (Deaf.thens (Deaf.thens (Deaf.block (Deaf.thens (Deaf.body RetM.not_panicked))))))) ?_
          refine DW.skip 27 rfl (by kernel_rfl) rfl (by kernel_rfl) (by kernel_rfl) (Deaf.thens (Deaf.block (Deaf.thens (Deaf.thens (Deaf.block (Deaf.thens (Deaf.body RetM.not_panicked))))))) ?_
          refine DW.skip 28 rfl (by kernel_rfl) rfl (by kernel_rfl) (by kernel_rfl) (Deaf.thens (Deaf.block (Deaf.thens (Deaf.thens (Deaf.block (Deaf.thens (Deaf.body RetM.not_panicked))))))) ?_
          refine DW.skip 29 rfl (by kernel_rfl) rfl (by kernel_rfl) (by kernel_rfl) (Deaf.thens (Deaf.block (Deaf.thens (Deaf.thens (Deaf.block (Deaf.thens (Deaf.body RetM.not_panicked))))))) ?_
          refine DW.skip 30 rfl (by kernel_rfl) rfl (by kernel_rfl) (by kernel_rfl) (Deaf.thens (Deaf.block (Deaf.thens (Deaf.thens (Deaf.block (Deaf.thens (Deaf.body RetM.not_panicked))))))) ?_
          refine DW.skip 31 rfl (by kernel_rfl) rfl (by kernel_rfl) (by kernel_rfl) (Deaf.thens (Deaf.block (Deaf.thens (Deaf.thens (Deaf.block (Deaf.thens (Deaf.body RetM.not_panicked))))))) ?_
          refine DW.skip 32 rfl (by kernel_rfl) rfl (by kernel_rfl) (by kernel_rfl) (Deaf.thens (Deaf.block (Deaf.thens (Deaf.thens (Deaf.block (Deaf.thens (Deaf.body RetM.not_panicked))))))) ?_
          refine DW.skip 33 rfl (by kernel_rfl) rfl (by kernel_rfl) (by kernel_rfl) (Deaf.thens (Deaf.block (Deaf.thens (Deaf.thens (Deaf.block (Deaf.thens (Deaf.body RetM.not_panicked))))))) ?_
          refine DW.skip 34 rfl (by kernel_rfl) rfl (by kernel_rfl) (by kernel_rfl) (Deaf.thens (Deaf.block (Deaf.thens (Deaf.thens (Deaf.block (Deaf.thens (Deaf.body RetM.not_panicked))))))) ?_
          refine DW.skip 35 rfl (by kernel_rfl) rfl (by kernel_rfl) (by kernel_rfl) (Deaf.thens (Deaf.block (Deaf.thens (Deaf.thens (Deaf.block (Deaf.thens (Deaf.body RetM.not_panicked))))))) ?_
          refine DW.skip 36 rfl (by kernel_rfl) rfl (by kernel_rfl) (by kernel_rfl) (Deaf.thens (Deaf.block (Deaf.thens (Deaf.thens (Deaf.block (Deaf.thens (Deaf.body RetM.not_panicked))))))) ?_
          refine DW.take (T := fun _ => True) 37 (.bool true) rfl (by kernel_rfl) rfl (by kernel_rfl) (.inl fun _ => trivial) (by kernel_rfl) (Deaf.thens (Deaf.block (Deaf.thens (Deaf.thens (Deaf.block (Deaf.thens (Deaf.body RetM.not_panicked))))))) (fun w_ _ => (by kernel_rfl)) trivial ?_
          refine DW.done (by kernel_rfl) ?_
          refine EX.then_code ?_
          refine CW.cond_t (by kernel_rfl) (by kernel_rfl) ?_
          refine CW.seq ?_
          refine CW.region ?_
          refine WL.q (.bool false) (by kernel_rfl) rfl (by kernel_rfl) (by kernel_rfl) ?_
          refine WL.nil ?_
          refine EX.then_code ?_
          refine CW.ret ?_
          refine EX.ret_block ?_
          refine EX.ret_then ?_
          refine EX.ret_then ?_
          refine EX.ret_block ?_
          refine EX.ret_then ?_
          refine EX.ret1 (v := (.bool false)) rfl (by kernel_rfl) ?_
          exact Ret.mk l86 (G86.drew) (congrArg Value.bool (sameF_f (.inr ⟨k, by omega, by omega, fun e_ => by simp only [dat, Prod.mk.injEq] at e_; exact sameS_ne (not_true c92) e_.2.1⟩)).symm)
        ·
          skip
          have d95 := not_false c92
          have d96 := sameS_iff.1 d95
          refine DW.know 41 (.bool false) (x := .bool (!(sameS (((xs.getD k factE.dflt)).t) (((ys.getD k factE.dflt)).t)))) (by kernel_rfl) (congrArg Value.bool c92) ?_
          refine DW.take (T := fun _ => True) 25 (.slice ax xs.length cx) rfl (by kernel_rfl) rfl (by kernel_rfl) (.inl fun _ => trivial) (by kernel_rfl) (Deaf.thens (Deaf.block (Deaf.thens (Deaf.thens (Deaf.block (Deaf.thens (Deaf.body RetM.not_panicked))))))) (fun w_ _ => (by kernel_rfl)) trivial ?_
          refine DW.take (T := fun _ => True) 26 (.int .i64 (k : Int)) rfl (by kernel_rfl) rfl (by kernel_rfl) (.inl fun _ => trivial) (by kernel_rfl) (Deaf.thens (Deaf.block (Deaf.thens (Deaf.thens (Deaf.block (Deaf.thens (Deaf.body RetM.not_panicked))))))) (fun w_ _ => (by kernel_rfl)) trivial ?_
          refine DW.take (T := fun _ => True) 27 (eptr ax (k * factE.sz)) rfl (by kernel_rfl) rfl (by kernel_rfl) (.inl fun _ => trivial) (by kernel_rfl) (Deaf.thens (Deaf.block (Deaf.thens (Deaf.thens (Deaf.block (Deaf.thens (Deaf.body RetM.not_panicked))))))) (fun w_ _ => (q_indexAddr (i := k) (E := factE) (xs := xs) (e := 43) (c := cx) (k := .i64) (m := xs.length) rfl rfl (by kernel_rfl) (by kernel_rfl) (by kernel_rfl) (Hx.mono (l86.trans (G86.drew).imm)) (by omega))) trivial ?_
          refine DW.take (T := fun _ => True) 28 (eptr ax (k * factE.sz + 2)) rfl (by kernel_rfl) rfl (by kernel_rfl) (.inl fun _ => trivial) (by kernel_rfl) (Deaf.thens (Deaf.block (Deaf.thens (Deaf.thens (Deaf.block (Deaf.thens (Deaf.body RetM.not_panicked))))))) (fun w_ _ => (q_fieldAddr_e (i := k) (k := k * factE.sz) (off := 2) rfl (by kernel_rfl) (by kernel_rfl) (Hx.mono (l86.trans (G86.drew).imm)) (by omega))) trivial ?_
          refine DW.take (T := fun w_ => RS (PH.all w_) factE ax xs) 29 (.slice (((xs.getD k factE.dflt)).a) (((xs.getD k factE.dflt)).vals.length) (((xs.getD k factE.dflt)).c)) rfl (by kernel_rfl) rfl (by kernel_rfl) (.inr (by simp only [List.mem_cons, true_or, or_true])) (by kernel_rfl) (Deaf.thens (Deaf.block (Deaf.thens (Deaf.thens (Deaf.block (Deaf.thens (Deaf.body RetM.not_panicked))))))) (fun w_ T_ => (q_load_e (i := k) (k := 2) (E := factE) rfl (by kernel_rfl) (by kernel_rfl) T_ (by omega) (by decide) (by kernel_rfl))) (Hx.mono (l86.trans (G86.drew).imm)) ?_
          refine DW.take (T := fun _ => True) 30 (.slice ay ys.length cy) rfl (by kernel_rfl) rfl (by kernel_rfl) (.inl fun _ => trivial) (by kernel_rfl) (Deaf.thens (Deaf.block (Deaf.thens (Deaf.thens (Deaf.block (Deaf.thens (Deaf.body RetM.not_panicked))))))) (fun w_ _ => (by kernel_rfl)) trivial ?_
          refine DW.take (T := fun _ => True) 31 (.int .i64 (k : Int)) rfl (by kernel_rfl) rfl (by kernel_rfl) (.inl fun _ => trivial) (by kernel_rfl) (Deaf.thens (Deaf.block (Deaf.thens (Deaf.thens (Deaf.block (Deaf.thens (Deaf.body RetM.not_panicked))))))) (fun w_ _ => (by kernel_rfl)) trivial ?_
          refine DW.take (T := fun _ => True) 32 (eptr ay (k * factE.sz)) rfl (by kernel_rfl) rfl (by kernel_rfl) (.inl fun _ => trivial) (by kernel_rfl) (Deaf.thens (Deaf.block (Deaf.thens (Deaf.thens (Deaf.block (Deaf.thens (Deaf.body RetM.not_panicked))))))) (fun w_ _ => (q_indexAddr (i := k) (E := factE) (xs := ys) (e := 43) (c := cy) (k := .i64) (m := ys.length) rfl rfl (by kernel_rfl) (by kernel_rfl) (by kernel_rfl) (Hy.mono (l86.trans (G86.drew).imm)) (by omega))) trivial ?_
          refine DW.take (T := fun _ => True) 33 (eptr ay (k * factE.sz + 2)) rfl (by kernel_rfl) rfl (by kernel_rfl) (.inl fun _ => trivial) (by kernel_rfl) (Deaf.thens (Deaf.block (Deaf.thens (Deaf.thens (Deaf.block (Deaf.thens (Deaf.body RetM.not_panicked))))))) (fun w_ _ => (q_fieldAddr_e (i := k) (k := k * factE.sz) (off := 2) rfl (by kernel_rfl) (by kernel_rfl) (Hy.mono (l86.trans (G86.drew).imm)) (by omega))) trivial ?_
          refine DW.take (T := fun w_ => RS (PH.all w_) factE ay ys) 34 (.slice (((ys.getD k factE.dflt)).a) (((ys.getD k factE.dflt)).vals.length) (((ys.getD k factE.dflt)).c)) rfl (by kernel_rfl) rfl (by kernel_rfl) (.inr (by simp only [List.mem_cons, true_or, or_true])) (by kernel_rfl) (Deaf.thens (Deaf.block (Deaf.thens (Deaf.thens (Deaf.block (Deaf.thens (Deaf.body RetM.not_panicked))))))) (fun w_ T_ => (q_load_e (i := k) (k := 2) (E := factE) rfl (by kernel_rfl) (by kernel_rfl) T_ (by omega) (by decide) (by kernel_rfl))) (Hy.mono (l86.trans (G86.drew).imm)) ?_
          refine DW.only 35 (by kernel_rfl) ?_
          refine DOp.call rfl (by kernel_rfl) rfl (by kernel_rfl) (by kernel_rfl) (rowsV_spec (xs := (((xs.getD k factE.dflt)).vals)) (ys := (((ys.getD k factE.dflt)).vals)) (cx := (((xs.getD k factE.dflt)).c)) (cy := (((ys.getD k factE.dflt)).c)) (G86.drew) ((Gx _ (getD_mem (by omega))).mono l86) ((Gy _ (getD_mem (by omega))).mono l86) (hv _ (getD_mem (d := factE.dflt) (by omega)))) (Ret.elimD (fun w97 h97 l97 G97 => ⟨.inr (fun _ => (Hx.mono ((l86.trans l97).trans G97.imm))), .inr (fun _ => (Hy.mono ((l86.trans l97).trans G97.imm))), .inr (fun _ => (Hx.mono ((l86.trans l97).trans G97.imm))), .inr (fun _ => (Hy.mono ((l86.trans l97).trans G97.imm))), .inl (by kernel_rfl), .inl (by kernel_rfl), trivial⟩) ?_)
          rintro w97 h97 _ l97 G97 rfl
          refine DW.take (T := fun _ => True) 36 (.bool (!(rowsV (((xs.getD k factE.dflt)).vals) (((ys.getD k factE.dflt)).vals)))) rfl (by kernel_rfl) rfl (by kernel_rfl) (.inl fun _ => trivial) (by kernel_rfl) (Deaf.thens (Deaf.block (Deaf.thens (Deaf.thens (Deaf.block (Deaf.thens (Deaf.body RetM.not_panicked))))))) (fun w_ _ => (by kernel_rfl)) trivial ?_
          refine DW.take (T := fun _ => True) 37 (.bool (!(rowsV (((xs.getD k factE.dflt)).vals) (((ys.getD k factE.dflt)).vals)))) rfl (by kernel_rfl) rfl (by kernel_rfl) (.inl fun _ => trivial) (by kernel_rfl) (Deaf.thens (Deaf.block (Deaf.thens (Deaf.thens (Deaf.block (Deaf.thens (Deaf.body RetM.not_panicked))))))) (fun w_ _ => (by kernel_rfl)) trivial ?_
          refine DW.done (by kernel_rfl) ?_
          refine EX.then_code ?_
          refine CW.cond (!(rowsV (((xs.getD k factE.dflt)).vals) (((ys.getD k factE.dflt)).vals))) (by kernel_rfl) (by kernel_rfl) (fun c98 => ?_) (fun c98 => ?_)
          ·
            skip
            have d99 := not_true c98
            refine CW.seq ?_
            refine CW.region ?_
            refine WL.q (.bool false) (by kernel_rfl) rfl (by kernel_rfl) (by kernel_rfl) ?_
            refine WL.nil ?_
            refine EX.then_code ?_
            refine CW.ret ?_
            refine EX.ret_block ?_
            refine EX.ret_then ?_
            refine EX.ret_then ?_
            refine EX.ret_block ?_
            refine EX.ret_then ?_
            refine EX.ret1 (v := (.bool false)) rfl (by kernel_rfl) ?_
            exact Ret.mk (l86.trans l97) G97 (congrArg Value.bool (sameF_f (.inr ⟨k, by omega, by omega, fun e_ => by simp only [dat, Prod.mk.injEq] at e_; have q_ := (not_true c98); rw [e_.2.2] at q_; simp [rowsV] at q_⟩)).symm)
          ·
            skip
            have d101 := not_false c98
            refine CW.skip ?_
            refine EX.in_block ?_
            refine EX.then_code ?_
            refine CW.region ?_
            refine WL.q (.int .i64 (k : Int)) (by kernel_rfl) rfl (by kernel_rfl) (by kernel_rfl) ?_
            refine WL.q (.int .i64 ((k + 1 : Nat) : Int)) (by kernel_rfl) rfl (by kernel_rfl) (q_int (x := IntKind.i64.wrap ((k : Int) + 1)) (by kernel_rfl) (wrap_to (by omega) (by omega) (by omega))) ?_
            refine WL.q (.int .i64 ((k + 1 : Nat) : Int)) (by kernel_rfl) rfl (by kernel_rfl) (by kernel_rfl) ?_
            refine WL.nil ?_
            exact EX.then_loop (k + 1) ⟨(by kernel_rfl), (by kernel_rfl), (lk_int (x := ((k + 1 : Nat) : Int)) (by kernel_rfl) (by first | omega | (dsimp only; done) | (dsimp only; omega))), trivial⟩ ⟨h97, (l86.trans l97), G97, (by first | omega | assumption | (dsimp only [List.length_nil, List.length_append, List.length_cons]; omega)), (fun j hj => by rcases Nat.lt_or_ge j k with q | q; (exact hn j q); (obtain rfl : j = k := by omega); exact dat_eq (by omega) (sameS_iff.1 (not_false c92)) (not_false c98))⟩ (by first | omega | (dsimp only; omega))
    ·
      skip
      have d103 := of_decide_eq_false c87
      refine CW.exit ?_
      refine EX.exit_then ?_
      refine EX.exit_then ?_
      refine EX.exit_here ?_
      refine EX.then_code ?_
      refine CW.seq ?_
      refine CW.region ?_
      refine WL.q (.bool true) (by kernel_rfl) rfl (by kernel_rfl) (by kernel_rfl) ?_
      refine WL.nil ?_
      refine EX.then_code ?_
      refine CW.ret ?_
      refine EX.ret1 (v := (.bool true)) rfl (by kernel_rfl) ?_
      exact Ret.mk l86 G86 (congrArg Value.bool (sameF_t (by omega) (fun j hj => hn j (by omega))).symm)
end Go.Proofs
