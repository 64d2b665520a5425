import Derived.Test.YtaepnhapggdceaaDoorM7
namespace Go.Proofs
open Go Go.Wk
theorem allO_spec {K : Key} {w : World} {h M0 M Mt : PH} (G : Wld K w h M) {p : Nat} {row : List FactD} {next : Int} (A : MemL h p row next M0 Mt) (hM : PH.le Mt M) (R : RowOk row next) :
    Calls Tryd.prog 14 #[.pointer (some ⟨p, 0, none⟩)] w (RetM K h fun h' M' v => ∃ a c fs N, v = .slice a fs.length fs.length ∧ InnL fs M N ∧ Own 55 factE N M' a c fs ∧ fs.map dat = row.map dat) := by
  obtain ⟨bm, am, cm, es, clk, Ma, Mb, Ba, Bb, Oo, mi, gd⟩ := A
  have hrl := R.len
  refine enter (l := [(.pointer (some ⟨p, 0, none⟩))]) Tryd.func14 rfl Tryd.ntmps14 (Nat.le_of_ble_eq_true rfl) ?_
  simp only [params]
  refine CW.seq ?_
  refine CW.region ?_
  refine WL.q (.slice none 0 0) (by kernel_rfl) rfl (by kernel_rfl) (by kernel_rfl) ?_
  refine WL.nil ?_
  refine EX.then_code ?_
  refine CW.seq ?_
  refine CW.region ?_
  refine WL.q (.slice none 0 0) (by kernel_rfl) rfl (by kernel_rfl) (by kernel_rfl) ?_
  refine WL.nil ?_
  refine EX.then_code ?_
  refine CW.seq ?_
  refine CW.seq ?_
  refine CW.region ?_
  refine WL.q (.pointer (some ⟨p, 0, none⟩)) (by kernel_rfl) rfl (by kernel_rfl) (by kernel_rfl) ?_
  refine WL.q (.pointer (some ⟨p, 0, none⟩)) (by kernel_rfl) rfl (by kernel_rfl) (by kernel_rfl) ?_
  refine WL.q (.pointer (some ⟨p, 0, none⟩)) (by kernel_rfl) rfl (by kernel_rfl) (by kernel_rfl) ?_
  refine WL.q (.slice am row.length cm) (by kernel_rfl) rfl (by kernel_rfl) (q_load (off := 0) rfl (by kernel_rfl) (by kernel_rfl) (G.own _ _ (((Bb.le.trans Oo.le).trans hM) _ _ Ba.at)) (by kernel_rfl)) ?_
  refine WL.q (.int .i64 (row.length : Int)) (by kernel_rfl) rfl (by kernel_rfl) (by kernel_rfl) ?_
  refine WL.q (.int .i64 0) (by kernel_rfl) rfl (by kernel_rfl) (by kernel_rfl) ?_
  refine WL.nil ?_
  refine EX.then_code ?_
  refine CW.block ?_
  refine CW.loop (β := Nat × List FactD × Option Addr × Nat) (fun x_ => [(2, (.slice none 0 0)), (3, (.slice x_.2.2.1 x_.2.1.length x_.2.2.2)), (9, (.slice am row.length cm)), (10, (.int .i64 (row.length : Int))), (11, (.int .i64 (x_.1 : Int)))]) (fun x_ w_ => ∃ h_ M0_ M1_, (PH.le h h_) ∧ (Wld K w_ h_ M1_) ∧ (InnL x_.2.1 M M0_) ∧ (Own 55 factO M0_ M1_ x_.2.2.1 x_.2.2.2 x_.2.1) ∧ (x_.1 ≤ row.length) ∧ (x_.2.1.map dat = (row.take x_.1).map dat)) (fun x_ => row.length - x_.1) ⟨0, [], none, 0⟩ ⟨(by kernel_rfl), (by kernel_rfl), (by kernel_rfl), (by kernel_rfl), (lk_int (x := 0) (by kernel_rfl) (by first | omega | (dsimp only; done) | (dsimp only; omega))), trivial⟩ ⟨h, M, M, (PH.le_refl _), G, (show InnL [] M M from rfl), (Own.nil 55 factO M), (by first | omega | assumption | (dsimp only [List.length_nil, List.length_append, List.length_cons]; omega)), rfl⟩ ?_
  rintro ⟨k, fs, ao, co⟩ w1 ⟨h1, M0_1, M1_1, l1, G1, o_inn1, o_out1, hk, hd⟩
  try dsimp only at *
  have hfl := dat_len hd
  rw [List.length_take] at hfl
  refine CW.seq ?_
  refine CW.region ?_
  refine WL.q (.bool (decide ((k : Int) < (row.length : Int)))) (by kernel_rfl) rfl (by kernel_rfl) (by kernel_rfl) ?_
  refine WL.nil ?_
  refine EX.then_code ?_
  refine CW.seq ?_
  refine CW.cond (decide ((k : Int) < (row.length : Int))) (by kernel_rfl) (by kernel_rfl) (fun c2 => ?_) (fun c2 => ?_)
  ·
    skip
    have d3 := of_decide_eq_true c2
    refine CW.skip ?_
    refine EX.then_code ?_
    refine CW.seq ?_
    refine CW.block ?_
    refine CW.seq ?_
    refine CW.region ?_
    refine WL.q (eptr am (k * factE.sz)) (by kernel_rfl) rfl (by kernel_rfl) (q_indexAddr (i := k) (E := factE) (xs := row) (e := 55) (c := cm) (k := .i64) (m := row.length) rfl rfl (by kernel_rfl) (by kernel_rfl) (by kernel_rfl) (Oo.reads.mono ((hM.trans ((Ly.le (Ly.innL fs) o_inn1).trans o_out1.le)).trans G1.own)) (by omega)) ?_
    refine WL.q (.agg #[(.int .i64 (((row.getD k factE.dflt)).id)), (.string (((row.getD k factE.dflt)).t)), (.slice (((row.getD k factE.dflt)).a) (((row.getD k factE.dflt)).vals.length) (((row.getD k factE.dflt)).c))]) (by kernel_rfl) rfl (by kernel_rfl) (q_val (q_loadAgg_e (i := k) (E := factE) rfl (by kernel_rfl) (by kernel_rfl) (Oo.reads.mono ((hM.trans ((Ly.le (Ly.innL fs) o_inn1).trans o_out1.le)).trans G1.own)) (by omega)) (by kernel_rfl)) ?_
    refine WL.ex (by kernel_rfl) rfl (by kernel_rfl) (q_newB (ob := (.cells #[(.int .i64 0), (.string (ByteArray.mk #[])), (.slice none 0 0)] 55 (0, 0))) G1 (fun b_ => .pointer (some ⟨b_, 0, none⟩)) (fun u_ => by kernel_rfl)) ?_
    rintro _ w4 ⟨b4, M4, rfl, G4, B4, L4⟩
    refine WL.exu (by kernel_rfl) rfl (by kernel_rfl) (q_storeB (off := 0) (et := 55) (v := (.agg #[(.int .i64 (((row.getD k factE.dflt)).id)), (.string (((row.getD k factE.dflt)).t)), (.slice (((row.getD k factE.dflt)).a) (((row.getD k factE.dflt)).vals.length) (((row.getD k factE.dflt)).c))])) (vs := [(.int .i64 (((row.getD k factE.dflt)).id)), (.string (((row.getD k factE.dflt)).t)), (.slice (((row.getD k factE.dflt)).a) (((row.getD k factE.dflt)).vals.length) (((row.getD k factE.dflt)).c))]) #[(.int .i64 (((row.getD k factE.dflt)).id)), (.string (((row.getD k factE.dflt)).t)), (.slice (((row.getD k factE.dflt)).a) (((row.getD k factE.dflt)).vals.length) (((row.getD k factE.dflt)).c))] G4 B4 rfl (by kernel_rfl) (by kernel_rfl) (by kernel_rfl) (by kernel_rfl) (by simp [Value.oneCell']) (by simp) (by kernel_rfl)) ?_
    rintro w5 ⟨M5, G5, B5⟩
    obtain ⟨h6, l6, G6, hb6⟩ := B5.freeze G5
    refine WL.nil ?_
    refine EX.then_code ?_
    refine CW.region ?_
    refine WL.q (.slice ao fs.length co) (by kernel_rfl) rfl (by kernel_rfl) (by kernel_rfl) ?_
    refine WL.q (.agg #[(.int .i64 (((row.getD k factE.dflt)).id)), (.string (((row.getD k factE.dflt)).t)), (.slice (((row.getD k factE.dflt)).a) (((row.getD k factE.dflt)).vals.length) (((row.getD k factE.dflt)).c))]) (by kernel_rfl) rfl (by kernel_rfl) (q_loadAgg (off := 0) (vs := [(.int .i64 (((row.getD k factE.dflt)).id)), (.string (((row.getD k factE.dflt)).t)), (.slice (((row.getD k factE.dflt)).a) (((row.getD k factE.dflt)).vals.length) (((row.getD k factE.dflt)).c))]) rfl (by kernel_rfl) (by kernel_rfl) (G6.imm _ _ ((PH.le_refl _) _ _ hb6)) (agg_at (by kernel_rfl))) ?_
    refine WL.call (by kernel_rfl) rfl (by kernel_rfl) (by kernel_rfl) (apart_spec (f := (FactD.mk (((row.getD k factE.dflt)).id) (((row.getD k factE.dflt)).t) (((row.getD k factE.dflt)).a) (((row.getD k factE.dflt)).vals) (((row.getD k factE.dflt)).c))) G6 (show factG h6 (FactD.mk (((row.getD k factE.dflt)).id) (((row.getD k factE.dflt)).t) (((row.getD k factE.dflt)).a) (((row.getD k factE.dflt)).vals) (((row.getD k factE.dflt)).c)) from ((gd _ (getD_mem (by omega))).mono (l1.trans l6))) (Nat.le_trans (R.ok _ (getD_mem (d := factE.dflt) (show k < row.length by omega))).2.1 (by decide))) (RetM.elim ?_)
    rintro w7 h7 M7 _ l7 G7 ⟨a7, k7, rfl, o7⟩
    refine WL.ex (by kernel_rfl) rfl (by kernel_rfl) (q_newF (ob := (.cells #[(.int .i64 (((row.getD k factE.dflt)).id)), (.string (((row.getD k factE.dflt)).t)), (.slice a7 ((((row.getD k factE.dflt)).vals).length) ((((row.getD k factE.dflt)).vals).length))] 55 (0, 0))) G7 (fun b_ => .slice (some ⟨b_, 0, none⟩) 1 1) (fun u_ => by kernel_rfl)) ?_
    rintro _ w8 ⟨b8, h8, rfl, l8, G8, hb8, L8⟩
    have r9 : RS h8 factO (some ⟨b8, 0, none⟩) [(FactD.mk (((row.getD k factE.dflt)).id) (((row.getD k factE.dflt)).t) a7 (((row.getD k factE.dflt)).vals) ((((row.getD k factE.dflt)).vals).length))] := RS.blk hb8 (by kernel_rfl)
    obtain ⟨N10, s11, s12⟩ : ∃ N_, Own 29 valE M0_1 N_ a7 k7 (((row.getD k factE.dflt)).vals) ∧ Own 55 factO N_ M7 ao co fs := Ly.swap (Ly.own (E := factO) 55 ao co fs) (Ly.own (E := valE) 29 a7 k7 (((row.getD k factE.dflt)).vals)) o_out1 o7
    refine WL.ex (by kernel_rfl) rfl (by kernel_rfl) (q_app (e := 55) (bytes := 48) (cap := co) (c2 := 1) (M0 := N10) (xs := fs) (ys := ([(FactD.mk (((row.getD k factE.dflt)).id) (((row.getD k factE.dflt)).t) a7 (((row.getD k factE.dflt)).vals) ((((row.getD k factE.dflt)).vals).length))])) G8 s12 (r9.mono ((PH.le_refl _).trans G8.imm)) rfl (by kernel_rfl) (by kernel_rfl) (by kernel_rfl) (by first | (simp only [maxLen, List.length_append, List.length_cons, List.length_nil]; omega) | (simp only [maxLen]; omega)) (by first | omega | (simp only [List.length_append, List.length_cons, List.length_nil]; omega))) ?_
    rintro _ w13 ⟨a13, k13, M13, rfl, G13, o13, z13⟩
    refine WL.q (.slice a13 ((fs ++ ([(FactD.mk (((row.getD k factE.dflt)).id) (((row.getD k factE.dflt)).t) a7 (((row.getD k factE.dflt)).vals) ((((row.getD k factE.dflt)).vals).length))])).length) k13) (by kernel_rfl) rfl (by kernel_rfl) (by kernel_rfl) ?_
    refine WL.nil ?_
    refine EX.in_block ?_
    refine EX.then_code ?_
    refine CW.region ?_
    refine WL.q (.int .i64 ((k + 1 : Nat) : Int)) (by kernel_rfl) rfl (by kernel_rfl) (q_int (x := IntKind.i64.wrap ((k : Int) + 1)) (by kernel_rfl) (wrap_to (by omega) (by omega) (by omega))) ?_
    refine WL.q (.int .i64 ((k + 1 : Nat) : Int)) (by kernel_rfl) rfl (by kernel_rfl) (by kernel_rfl) ?_
    refine WL.nil ?_
    obtain ⟨N14, s15, s16⟩ : ∃ N_, Own 29 valE M N_ a7 k7 (((row.getD k factE.dflt)).vals) ∧ InnL fs N_ N10 := Ly.swap (Ly.innL fs) (Ly.own (E := valE) 29 a7 k7 (((row.getD k factE.dflt)).vals)) o_inn1 s11
    obtain ⟨N17, s18, s19⟩ : ∃ N_, Own 55 factO N14 N_ a13 k13 (fs ++ ([(FactD.mk (((row.getD k factE.dflt)).id) (((row.getD k factE.dflt)).t) a7 (((row.getD k factE.dflt)).vals) ((((row.getD k factE.dflt)).vals).length))])) ∧ InnL fs N_ M13 := Ly.swap (Ly.innL fs) (Ly.own (E := factO) 55 a13 k13 (fs ++ ([(FactD.mk (((row.getD k factE.dflt)).id) (((row.getD k factE.dflt)).t) a7 (((row.getD k factE.dflt)).vals) ((((row.getD k factE.dflt)).vals).length))]))) s16 o13
    obtain ⟨N20, s21, s22⟩ : ∃ N_, Own 55 factO M N_ a13 k13 (fs ++ ([(FactD.mk (((row.getD k factE.dflt)).id) (((row.getD k factE.dflt)).t) a7 (((row.getD k factE.dflt)).vals) ((((row.getD k factE.dflt)).vals).length))])) ∧ Own 29 valE N_ N17 a7 k7 (((row.getD k factE.dflt)).vals) := Ly.swap (Ly.own (E := valE) 29 a7 k7 (((row.getD k factE.dflt)).vals)) (Ly.own (E := factO) 55 a13 k13 (fs ++ ([(FactD.mk (((row.getD k factE.dflt)).id) (((row.getD k factE.dflt)).t) a7 (((row.getD k factE.dflt)).vals) ((((row.getD k factE.dflt)).vals).length))]))) s15 s18
    obtain ⟨N23, s24, s25⟩ : ∃ N_, InnL fs N20 N_ ∧ Own 29 valE N_ M13 a7 k7 (((row.getD k factE.dflt)).vals) := Ly.swap (Ly.own (E := valE) 29 a7 k7 (((row.getD k factE.dflt)).vals)) (Ly.innL fs) s22 s19
    have I26 : InnL (fs ++ [(FactD.mk (((row.getD k factE.dflt)).id) (((row.getD k factE.dflt)).t) a7 (((row.getD k factE.dflt)).vals) ((((row.getD k factE.dflt)).vals).length))]) N20 M13 := InnL.push s24 s25
    obtain ⟨N27, s28, s29⟩ : ∃ N_, InnL (fs ++ [(FactD.mk (((row.getD k factE.dflt)).id) (((row.getD k factE.dflt)).t) a7 (((row.getD k factE.dflt)).vals) ((((row.getD k factE.dflt)).vals).length))]) M N_ ∧ Own 55 factO N_ M13 a13 k13 (fs ++ ([(FactD.mk (((row.getD k factE.dflt)).id) (((row.getD k factE.dflt)).t) a7 (((row.getD k factE.dflt)).vals) ((((row.getD k factE.dflt)).vals).length))])) := Ly.swap (Ly.own (E := factO) 55 a13 k13 (fs ++ ([(FactD.mk (((row.getD k factE.dflt)).id) (((row.getD k factE.dflt)).t) a7 (((row.getD k factE.dflt)).vals) ((((row.getD k factE.dflt)).vals).length))]))) (Ly.innL (fs ++ [(FactD.mk (((row.getD k factE.dflt)).id) (((row.getD k factE.dflt)).t) a7 (((row.getD k factE.dflt)).vals) ((((row.getD k factE.dflt)).vals).length))])) s21 I26
    exact EX.then_loop ⟨k + 1, (fs ++ [(FactD.mk (((row.getD k factE.dflt)).id) (((row.getD k factE.dflt)).t) a7 (((row.getD k factE.dflt)).vals) ((((row.getD k factE.dflt)).vals).length))]), a13, k13⟩ ⟨(by kernel_rfl), (by kernel_rfl), (by kernel_rfl), (by kernel_rfl), (lk_int (x := ((k + 1 : Nat) : Int)) (by kernel_rfl) (by first | omega | (dsimp only; done) | (dsimp only; omega))), trivial⟩ ⟨h8, N27, M13, (((l1.trans l6).trans l7).trans l8), G13, s28, s29, (by first | omega | assumption | (dsimp only [List.length_nil, List.length_append, List.length_cons]; omega)), (map_dat_succ row fs (by omega) hd rfl)⟩ (by first | omega | (dsimp only; omega))
  ·
    skip
    have d30 := of_decide_eq_false c2
    refine CW.exit ?_
    refine EX.exit_then ?_
    refine EX.exit_then ?_
    refine EX.exit_here ?_
    refine EX.then_code ?_
    refine CW.seq ?_
    refine CW.region ?_
    refine WL.q (.slice ao fs.length co) (by kernel_rfl) rfl (by kernel_rfl) (by kernel_rfl) ?_
    refine WL.call (by kernel_rfl) rfl (by kernel_rfl) (by kernel_rfl) (clipF_spec (a := ao) (m := fs.length) (c := co) G1 (by have q_ := o_out1.cap_le; first | omega | (simp only [List.length_take, List.length_append, List.length_drop] at q_; omega))) (Ret.elim ?_)
    rintro w31 h31 _ l31 G31 rfl
    refine WL.q (.slice ao fs.length fs.length) (by kernel_rfl) rfl (by kernel_rfl) (by kernel_rfl) ?_
    refine WL.nil ?_
    refine EX.then_code ?_
    refine CW.ret ?_
    refine EX.ret1 (v := (.slice ao fs.length fs.length)) rfl (by kernel_rfl) ?_
    obtain rfl : k = row.length := by omega
    exact RetM.mk (l1.trans l31) G31 ⟨ao, co, fs, _, rfl, o_inn1, o_out1, by rw [hd, List.take_length]⟩

theorem all_spec {K : Key} {w : World} {h M0 M Mt : PH} (G : Wld K w h M) {p : Nat} {row : List FactD} {next : Int} (A : MemL h p row next M0 Mt) (hM : PH.le Mt M) (R : RowOk row next) :
    Calls Tryd.prog 14 #[.pointer (some ⟨p, 0, none⟩)] w (Ret K h M fun h' v => ∃ a fs, v = .slice a fs.length fs.length ∧ RS h' factE a fs ∧ (∀ f ∈ fs, factG h' f) ∧ fs.map dat = row.map dat) := by
  refine (allO_spec G A hM R).mono fun e w' hw => ?_
  obtain ⟨h', M', v, rfl, hl, G', a, c, fs, N, rfl, I, O, hd⟩ := hw
  obtain ⟨h1, l1, G1, r1⟩ := O.freeze G'
  obtain ⟨h2, l2, G2, g2⟩ := I.freeze G1
  exact Ret.mk (hl.trans (l1.trans l2)) G2 ⟨a, fs, rfl, r1.mono l2, g2, hd⟩

theorem of_spec {K : Key} {w : World} {h M0 M Mt : PH} (G : Wld K w h M) {p : Nat} {row : List FactD} {next : Int} (A : MemL h p row next M0 Mt) (hM : PH.le Mt M) (R : RowOk row next) (t : ByteArray) :
    Calls Tryd.prog 16 #[.pointer (some ⟨p, 0, none⟩), .string t] w (Ret K h M fun h' v => ∃ a fs, v = .slice a fs.length fs.length ∧ RS h' factE a fs ∧ (∀ f ∈ fs, factG h' f) ∧ fs.map dat = (row.filter fun f => sameS f.t t).map dat) := by
  obtain ⟨bm, am, cm, es, clk, Ma, Mb, Ba, Bb, Oo, mi, gd⟩ := A
  have hrl := R.len
  refine enter (l := [(.pointer (some ⟨p, 0, none⟩)), (.string t)]) Tryd.func16 rfl Tryd.ntmps16 (Nat.le_of_ble_eq_true rfl) ?_
  simp only [params]
  refine CW.seq ?_
  refine CW.region ?_
  refine WL.q (.slice none 0 0) (by kernel_rfl) rfl (by kernel_rfl) (by kernel_rfl) ?_
  refine WL.nil ?_
  refine EX.then_code ?_
  refine CW.seq ?_
  refine CW.region ?_
  refine WL.q (.slice none 0 0) (by kernel_rfl) rfl (by kernel_rfl) (by kernel_rfl) ?_
  refine WL.nil ?_
  refine EX.then_code ?_
  refine CW.seq ?_
  refine CW.seq ?_
  refine CW.region ?_
  refine WL.q (.pointer (some ⟨p, 0, none⟩)) (by kernel_rfl) rfl (by kernel_rfl) (by kernel_rfl) ?_
  refine WL.q (.pointer (some ⟨p, 0, none⟩)) (by kernel_rfl) rfl (by kernel_rfl) (by kernel_rfl) ?_
  refine WL.q (.pointer (some ⟨p, 0, none⟩)) (by kernel_rfl) rfl (by kernel_rfl) (by kernel_rfl) ?_
  refine WL.q (.slice am row.length cm) (by kernel_rfl) rfl (by kernel_rfl) (q_load (off := 0) rfl (by kernel_rfl) (by kernel_rfl) (G.own _ _ (((Bb.le.trans Oo.le).trans hM) _ _ Ba.at)) (by kernel_rfl)) ?_
  refine WL.q (.int .i64 (row.length : Int)) (by kernel_rfl) rfl (by kernel_rfl) (by kernel_rfl) ?_
  refine WL.q (.int .i64 0) (by kernel_rfl) rfl (by kernel_rfl) (by kernel_rfl) ?_
  refine WL.nil ?_
  refine EX.then_code ?_
  refine CW.block ?_
  refine CW.loop (β := Nat × List FactD × Option Addr × Nat) (fun x_ => [(1, (.string t)), (4, (.slice none 0 0)), (5, (.slice x_.2.2.1 x_.2.1.length x_.2.2.2)), (11, (.slice am row.length cm)), (12, (.int .i64 (row.length : Int))), (13, (.int .i64 (x_.1 : Int)))]) (fun x_ w_ => ∃ h_ M0_, (PH.le h h_) ∧ (Wld K w_ h_ M0_) ∧ (Own 55 factE M M0_ x_.2.2.1 x_.2.2.2 x_.2.1) ∧ (∀ e_ ∈ x_.2.1, factG h_ e_) ∧ (x_.1 ≤ row.length) ∧ (x_.2.1.length ≤ x_.1) ∧ (x_.2.1.map dat = ((row.take x_.1).filter (fun f => sameS f.t t)).map dat)) (fun x_ => row.length - x_.1) ⟨0, [], none, 0⟩ ⟨(by kernel_rfl), (by kernel_rfl), (by kernel_rfl), (by kernel_rfl), (by kernel_rfl), (lk_int (x := 0) (by kernel_rfl) (by first | omega | (dsimp only; done) | (dsimp only; omega))), trivial⟩ ⟨h, M, (PH.le_refl _), G, (Own.nil 55 factE M), all_nil, (by first | omega | assumption | (dsimp only [List.length_nil, List.length_append, List.length_cons]; omega)), (Nat.le_refl _), rfl⟩ ?_
  rintro ⟨k, fs, ao, co⟩ w32 ⟨h32, M0_32, l32, G32, o_out32, g_out32, hk, hn, hd⟩
  try dsimp only at *
  refine CW.seq ?_
  refine CW.region ?_
  refine WL.q (.bool (decide ((k : Int) < (row.length : Int)))) (by kernel_rfl) rfl (by kernel_rfl) (by kernel_rfl) ?_
  refine WL.nil ?_
  refine EX.then_code ?_
  refine CW.seq ?_
  refine CW.cond (decide ((k : Int) < (row.length : Int))) (by kernel_rfl) (by kernel_rfl) (fun c33 => ?_) (fun c33 => ?_)
  ·
    skip
    have d34 := of_decide_eq_true c33
    refine CW.skip ?_
    refine EX.then_code ?_
    refine CW.seq ?_
    refine CW.block ?_
    refine CW.seq ?_
    refine CW.region ?_
    refine WL.q (eptr am (k * factE.sz)) (by kernel_rfl) rfl (by kernel_rfl) (q_indexAddr (i := k) (E := factE) (xs := row) (e := 55) (c := cm) (k := .i64) (m := row.length) rfl rfl (by kernel_rfl) (by kernel_rfl) (by kernel_rfl) (Oo.reads.mono ((hM.trans o_out32.le).trans G32.own)) (by omega)) ?_
    refine WL.q (.agg #[(.int .i64 (((row.getD k factE.dflt)).id)), (.string (((row.getD k factE.dflt)).t)), (.slice (((row.getD k factE.dflt)).a) (((row.getD k factE.dflt)).vals.length) (((row.getD k factE.dflt)).c))]) (by kernel_rfl) rfl (by kernel_rfl) (q_val (q_loadAgg_e (i := k) (E := factE) rfl (by kernel_rfl) (by kernel_rfl) (Oo.reads.mono ((hM.trans o_out32.le).trans G32.own)) (by omega)) (by kernel_rfl)) ?_
    refine WL.ex (by kernel_rfl) rfl (by kernel_rfl) (q_newB (ob := (.cells #[(.int .i64 0), (.string (ByteArray.mk #[])), (.slice none 0 0)] 55 (0, 0))) G32 (fun b_ => .pointer (some ⟨b_, 0, none⟩)) (fun u_ => by kernel_rfl)) ?_
    rintro _ w35 ⟨b35, M35, rfl, G35, B35, L35⟩
    refine WL.exu (by kernel_rfl) rfl (by kernel_rfl) (q_storeB (off := 0) (et := 55) (v := (.agg #[(.int .i64 (((row.getD k factE.dflt)).id)), (.string (((row.getD k factE.dflt)).t)), (.slice (((row.getD k factE.dflt)).a) (((row.getD k factE.dflt)).vals.length) (((row.getD k factE.dflt)).c))])) (vs := [(.int .i64 (((row.getD k factE.dflt)).id)), (.string (((row.getD k factE.dflt)).t)), (.slice (((row.getD k factE.dflt)).a) (((row.getD k factE.dflt)).vals.length) (((row.getD k factE.dflt)).c))]) #[(.int .i64 (((row.getD k factE.dflt)).id)), (.string (((row.getD k factE.dflt)).t)), (.slice (((row.getD k factE.dflt)).a) (((row.getD k factE.dflt)).vals.length) (((row.getD k factE.dflt)).c))] G35 B35 rfl (by kernel_rfl) (by kernel_rfl) (by kernel_rfl) (by kernel_rfl) (by simp [Value.oneCell']) (by simp) (by kernel_rfl)) ?_
    rintro w36 ⟨M36, G36, B36⟩
    obtain ⟨h37, l37, G37, hb37⟩ := B36.freeze G36
    refine WL.nil ?_
    refine EX.then_code ?_
    refine CW.seq ?_
    refine CW.region ?_
    refine WL.q (.pointer (some ⟨b35, 1, none⟩)) (by kernel_rfl) rfl (by kernel_rfl) (by kernel_rfl) ?_
    refine WL.q (.string (((row.getD k factE.dflt)).t)) (by kernel_rfl) rfl (by kernel_rfl) (q_load (off := 1) rfl (by kernel_rfl) (by kernel_rfl) (G37.imm _ _ ((PH.le_refl _) _ _ hb37)) (by kernel_rfl)) ?_
    refine WL.q (.string t) (by kernel_rfl) rfl (by kernel_rfl) (by kernel_rfl) ?_
    refine WL.q (.bool (sameS (((row.getD k factE.dflt)).t) t)) (by kernel_rfl) rfl (by kernel_rfl) (by kernel_rfl) ?_
    refine WL.nil ?_
    refine EX.then_code ?_
    refine CW.cond (sameS (((row.getD k factE.dflt)).t) t) (by kernel_rfl) (by kernel_rfl) (fun c38 => ?_) (fun c38 => ?_)
    ·
      skip
      have d39 := sameS_iff.1 c38
      refine CW.region ?_
      refine WL.q (.slice ao fs.length co) (by kernel_rfl) rfl (by kernel_rfl) (by kernel_rfl) ?_
      refine WL.q (.agg #[(.int .i64 (((row.getD k factE.dflt)).id)), (.string (((row.getD k factE.dflt)).t)), (.slice (((row.getD k factE.dflt)).a) (((row.getD k factE.dflt)).vals.length) (((row.getD k factE.dflt)).c))]) (by kernel_rfl) rfl (by kernel_rfl) (q_loadAgg (off := 0) (vs := [(.int .i64 (((row.getD k factE.dflt)).id)), (.string (((row.getD k factE.dflt)).t)), (.slice (((row.getD k factE.dflt)).a) (((row.getD k factE.dflt)).vals.length) (((row.getD k factE.dflt)).c))]) rfl (by kernel_rfl) (by kernel_rfl) (G37.imm _ _ ((PH.le_refl _) _ _ hb37)) (agg_at (by kernel_rfl))) ?_
      refine WL.call (by kernel_rfl) rfl (by kernel_rfl) (by kernel_rfl) (apart_spec (f := (FactD.mk (((row.getD k factE.dflt)).id) (((row.getD k factE.dflt)).t) (((row.getD k factE.dflt)).a) (((row.getD k factE.dflt)).vals) (((row.getD k factE.dflt)).c))) G37 (show factG h37 (FactD.mk (((row.getD k factE.dflt)).id) (((row.getD k factE.dflt)).t) (((row.getD k factE.dflt)).a) (((row.getD k factE.dflt)).vals) (((row.getD k factE.dflt)).c)) from ((gd _ (getD_mem (by omega))).mono (l32.trans l37))) (Nat.le_trans (R.ok _ (getD_mem (d := factE.dflt) (show k < row.length by omega))).2.1 (by decide))) (RetM.elim ?_)
      rintro w40 h40 M40 _ l40 G40 ⟨a40, k40, rfl, o40⟩
      obtain ⟨h41, l41, G41, r41⟩ := o40.freeze G40
      refine WL.ex (by kernel_rfl) rfl (by kernel_rfl) (q_newF (ob := (.cells #[(.int .i64 (((row.getD k factE.dflt)).id)), (.string (((row.getD k factE.dflt)).t)), (.slice a40 ((((row.getD k factE.dflt)).vals).length) ((((row.getD k factE.dflt)).vals).length))] 55 (0, 0))) G41 (fun b_ => .slice (some ⟨b_, 0, none⟩) 1 1) (fun u_ => by kernel_rfl)) ?_
      rintro _ w42 ⟨b42, h42, rfl, l42, G42, hb42, L42⟩
      have r43 : RS h42 factE (some ⟨b42, 0, none⟩) [(FactD.mk (((row.getD k factE.dflt)).id) (((row.getD k factE.dflt)).t) a40 (((row.getD k factE.dflt)).vals) ((((row.getD k factE.dflt)).vals).length))] := RS.blk hb42 (by kernel_rfl)
      have g43 : ∀ e_ ∈ [(FactD.mk (((row.getD k factE.dflt)).id) (((row.getD k factE.dflt)).t) a40 (((row.getD k factE.dflt)).vals) ((((row.getD k factE.dflt)).vals).length))], factG h42 e_ := (all_one (show factG h42 (FactD.mk (((row.getD k factE.dflt)).id) (((row.getD k factE.dflt)).t) a40 (((row.getD k factE.dflt)).vals) ((((row.getD k factE.dflt)).vals).length)) from (r41.mono l42)))
      refine WL.ex (by kernel_rfl) rfl (by kernel_rfl) (q_app (e := 55) (bytes := 48) (cap := co) (c2 := 1) (M0 := M) (xs := fs) (ys := ([(FactD.mk (((row.getD k factE.dflt)).id) (((row.getD k factE.dflt)).t) a40 (((row.getD k factE.dflt)).vals) ((((row.getD k factE.dflt)).vals).length))])) G42 o_out32 (r43.mono ((PH.le_refl _).trans G42.imm)) rfl (by kernel_rfl) (by kernel_rfl) (by kernel_rfl) (by first | (simp only [maxLen, List.length_append, List.length_cons, List.length_nil]; omega) | (simp only [maxLen]; omega)) (by first | omega | (simp only [List.length_append, List.length_cons, List.length_nil]; omega))) ?_
      rintro _ w44 ⟨a44, k44, M44, rfl, G44, o44, z44⟩
      have g44 : ∀ e_ ∈ (fs ++ ([(FactD.mk (((row.getD k factE.dflt)).id) (((row.getD k factE.dflt)).t) a40 (((row.getD k factE.dflt)).vals) ((((row.getD k factE.dflt)).vals).length))])), factG h42 e_ := all_app (all_up @factG.mono (((l37.trans l40).trans l41).trans l42) g_out32) g43
      refine WL.q (.slice a44 ((fs ++ ([(FactD.mk (((row.getD k factE.dflt)).id) (((row.getD k factE.dflt)).t) a40 (((row.getD k factE.dflt)).vals) ((((row.getD k factE.dflt)).vals).length))])).length) k44) (by kernel_rfl) rfl (by kernel_rfl) (by kernel_rfl) ?_
      refine WL.nil ?_
      refine EX.in_block ?_
      refine EX.then_code ?_
      refine CW.region ?_
      refine WL.q (.int .i64 ((k + 1 : Nat) : Int)) (by kernel_rfl) rfl (by kernel_rfl) (q_int (x := IntKind.i64.wrap ((k : Int) + 1)) (by kernel_rfl) (wrap_to (by omega) (by omega) (by omega))) ?_
      refine WL.q (.int .i64 ((k + 1 : Nat) : Int)) (by kernel_rfl) rfl (by kernel_rfl) (by kernel_rfl) ?_
      refine WL.nil ?_
      exact EX.then_loop ⟨k + 1, (fs ++ ([(FactD.mk (((row.getD k factE.dflt)).id) (((row.getD k factE.dflt)).t) a40 (((row.getD k factE.dflt)).vals) ((((row.getD k factE.dflt)).vals).length))])), a44, k44⟩ ⟨(by kernel_rfl), (by kernel_rfl), (by kernel_rfl), (by kernel_rfl), (by kernel_rfl), (lk_int (x := ((k + 1 : Nat) : Int)) (by kernel_rfl) (by first | omega | (dsimp only; done) | (dsimp only; omega))), trivial⟩ ⟨h42, M44, ((((l32.trans l37).trans l40).trans l41).trans l42), G44, o44, g44, (by first | omega | assumption | (dsimp only [List.length_nil, List.length_append, List.length_cons]; omega)), (by first | omega | (simp only [List.length_append, List.length_cons, List.length_nil]; omega)), (map_dat_filter row fs (fun f => sameS f.t t) (by omega) hd c38 rfl)⟩ (by first | omega | (dsimp only; omega))
    ·
      skip
      have d45 := sameS_ne c38
      refine CW.skip ?_
      refine EX.in_block ?_
      refine EX.then_code ?_
      refine CW.region ?_
      refine WL.q (.int .i64 ((k + 1 : Nat) : Int)) (by kernel_rfl) rfl (by kernel_rfl) (q_int (x := IntKind.i64.wrap ((k : Int) + 1)) (by kernel_rfl) (wrap_to (by omega) (by omega) (by omega))) ?_
      refine WL.q (.int .i64 ((k + 1 : Nat) : Int)) (by kernel_rfl) rfl (by kernel_rfl) (by kernel_rfl) ?_
      refine WL.nil ?_
      exact EX.then_loop ⟨k + 1, fs, ao, co⟩ ⟨(by kernel_rfl), (by kernel_rfl), (by kernel_rfl), (by kernel_rfl), (by kernel_rfl), (lk_int (x := ((k + 1 : Nat) : Int)) (by kernel_rfl) (by first | omega | (dsimp only; done) | (dsimp only; omega))), trivial⟩ ⟨h37, M0_32, (l32.trans l37), G37, o_out32, (all_up @factG.mono l37 g_out32), (by first | omega | assumption | (dsimp only [List.length_nil, List.length_append, List.length_cons]; omega)), (by first | omega | (simp only [List.length_append, List.length_cons, List.length_nil]; omega)), (map_dat_skip row fs (fun f => sameS f.t t) (by omega) hd c38)⟩ (by first | omega | (dsimp only; omega))
  ·
    skip
    have d46 := of_decide_eq_false c33
    refine CW.exit ?_
    refine EX.exit_then ?_
    refine EX.exit_then ?_
    refine EX.exit_here ?_
    refine EX.then_code ?_
    refine CW.seq ?_
    refine CW.region ?_
    refine WL.q (.slice ao fs.length co) (by kernel_rfl) rfl (by kernel_rfl) (by kernel_rfl) ?_
    refine WL.call (by kernel_rfl) rfl (by kernel_rfl) (by kernel_rfl) (clipF_spec (a := ao) (m := fs.length) (c := co) G32 (by have q_ := o_out32.cap_le; first | omega | (simp only [List.length_take, List.length_append, List.length_drop] at q_; omega))) (Ret.elim ?_)
    rintro w47 h47 _ l47 G47 rfl
    refine WL.q (.slice ao fs.length fs.length) (by kernel_rfl) rfl (by kernel_rfl) (by kernel_rfl) ?_
    refine WL.nil ?_
    refine EX.then_code ?_
    refine CW.ret ?_
    refine EX.ret1 (v := (.slice ao fs.length fs.length)) rfl (by kernel_rfl) ?_
    obtain rfl : k = row.length := by omega
    obtain ⟨h48, l48, G48, r48⟩ := o_out32.freeze G47
    exact Ret.mk ((l32.trans l47).trans l48) G48 (⟨ao, fs, rfl, r48, (all_up @factG.mono (l47.trans l48) g_out32), by rw [hd, List.take_length]⟩)
end Go.Proofs
