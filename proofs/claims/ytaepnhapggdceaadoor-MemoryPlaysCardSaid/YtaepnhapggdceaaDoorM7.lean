import Derived.Test.YtaepnhapggdceaaDoorM6
import Derived.Test.YtaepnhapggdceaaDoorOw
namespace Go.Proofs
open Go Go.Wk
theorem any_no {row : List FactD} {id : Int} (h : ∀ f ∈ row, f.id ≠ id) : row.any (fun f => f.id == id) = false := by
  rw [List.any_eq_false]; intro f hf; simpa using h f hf
theorem any_yes {row : List FactD} {id : Int} {pos : Nat} (h1 : pos < row.length) (h2 : (row.getD pos factE.dflt).id = id) : row.any (fun f => f.id == id) = true :=
  List.any_eq_true.2 ⟨_, getD_mem h1, by simpa using h2⟩
theorem filter_all {row : List FactD} {id : Int} (h : ∀ f ∈ row, f.id ≠ id) : (row.filter fun f => f.id ≠ id) = row := List.filter_eq_self.2 fun f hf => by simpa using h f hf

theorem retract_spec {K : Key} {w : World} {h M0 M : PH} (G : Wld K w h M) {p : Nat} {row : List FactD} {next : Int} (A : MemL h p row next M0 M) (T : Tab Tryd.prog h) (R : RowOk row next) (id : Int) :
    Calls Tryd.prog 11 #[.pointer (some ⟨p, 0, none⟩), .int .i64 id] w (RetM K h fun h' M' v => v = .bool (row.any fun f => f.id == id) ∧ MemL h' p (row.filter fun f => f.id ≠ id) next M0 M') := by
  obtain ⟨bm, am, cm, es, clk, Ma, Mb, Ba, Bb, Oo, mi, gd⟩ := A
  have hrl := R.len
  refine enter (l := [(.pointer (some ⟨p, 0, none⟩)), (.int .i64 id)]) Tryd.func11 rfl Tryd.ntmps11 (Nat.le_of_ble_eq_true rfl) ?_
  simp only [params]
  refine CW.seq ?_
  refine CW.region ?_
  refine WL.q (.bool false) (by kernel_rfl) rfl (by kernel_rfl) (by kernel_rfl) ?_
  refine WL.nil ?_
  refine EX.then_code ?_
  refine CW.seq ?_
  refine CW.region ?_
  refine WL.q (.pointer (some ⟨p, 0, none⟩)) (by kernel_rfl) rfl (by kernel_rfl) (by kernel_rfl) ?_
  refine WL.q (.int .i64 id) (by kernel_rfl) rfl (by kernel_rfl) (by kernel_rfl) ?_
  refine WL.call (by kernel_rfl) rfl (by kernel_rfl) (by kernel_rfl) (at_spec G ⟨_, _, _, _, _, _, _, Ba, Bb, Oo, mi, gd⟩ (PH.le_refl _) R id) (Ret.elim ?_)
  rintro w6 h6 _ l6 G6 ⟨pos, found, rfl, hq1, hq2, hq3⟩
  refine WL.q (.tuple #[(.int .i64 (pos : Int)), (.bool found)]) (by kernel_rfl) rfl (by kernel_rfl) (by kernel_rfl) ?_
  refine WL.q (.int .i64 (pos : Int)) (by kernel_rfl) rfl (by kernel_rfl) (by kernel_rfl) ?_
  refine WL.q (.bool found) (by kernel_rfl) rfl (by kernel_rfl) (by kernel_rfl) ?_
  refine WL.q (.int .i64 (pos : Int)) (by kernel_rfl) rfl (by kernel_rfl) (by kernel_rfl) ?_
  refine WL.q (.bool found) (by kernel_rfl) rfl (by kernel_rfl) (by kernel_rfl) ?_
  refine WL.nil ?_
  refine EX.then_code ?_
  refine CW.seq ?_
  refine CW.seq ?_
  refine CW.region ?_
  refine WL.q (.bool found) (by kernel_rfl) rfl (by kernel_rfl) (by kernel_rfl) ?_
  refine WL.q (.bool (!found)) (by kernel_rfl) rfl (by kernel_rfl) (by kernel_rfl) ?_
  refine WL.nil ?_
  refine EX.then_code ?_
  refine CW.cond (!found) (by kernel_rfl) (by kernel_rfl) (fun c7 => ?_) (fun c7 => ?_)
  ·
    skip
    have d8 := not_true c7
    refine CW.seq ?_
    refine CW.region ?_
    refine WL.q (.bool false) (by kernel_rfl) rfl (by kernel_rfl) (by kernel_rfl) ?_
    refine WL.nil ?_
    refine EX.then_code ?_
    refine CW.ret ?_
    refine EX.ret_then ?_
    refine EX.ret1 (v := (.bool false)) rfl (by kernel_rfl) ?_
    have hq4 := hq3 (not_true c7)
    exact RetM.mk l6 G6 ⟨by rw [any_no hq4], ⟨bm, am, cm, es, clk, Ma, Mb, by rw [filter_all hq4]; exact Ba, Bb, by rw [filter_all hq4]; exact Oo, by rw [filter_all hq4]; exact mi, by rw [filter_all hq4]; exact (all_up @factG.mono l6 gd)⟩⟩
  ·
    skip
    have d10 := not_false c7
    refine CW.skip ?_
    refine EX.then_code ?_
    refine CW.seq ?_
    obtain ⟨hp1, hp2⟩ := hq2 (not_false c7)
    refine CW.draw (by kernel_rfl) [(3, fun w_ => PH.all w_ p = some (.cells #[(.slice am row.length cm), .map (some bm), .int .i64 next] 61 (0, 0))), (7, fun w_ => PH.all w_ p = some (.cells #[(.slice am row.length cm), .map (some bm), .int .i64 next] 61 (0, 0))), (11, fun w_ => RS (PH.all w_) factE am row), (15, fun w_ => PH.all w_ p = some (.cells #[(.slice am row.length cm), .map (some bm), .int .i64 next] 61 (0, 0))), (19, fun w_ => RS (PH.all w_) factE am row)] ?_
    refine DW.take (T := fun _ => True) 0 (.pointer (some ⟨p, 0, none⟩)) rfl (by kernel_rfl) rfl (by kernel_rfl) (.inl fun _ => trivial) (by kernel_rfl) (Deaf.thens (Deaf.body RetM.not_panicked)) (fun w_ _ => (by kernel_rfl)) trivial ?_
    refine DW.take (T := fun _ => True) 1 (.pointer (some ⟨p, 0, none⟩)) rfl (by kernel_rfl) rfl (by kernel_rfl) (.inl fun _ => trivial) (by kernel_rfl) (Deaf.thens (Deaf.body RetM.not_panicked)) (fun w_ _ => (by kernel_rfl)) trivial ?_
    refine DW.take (T := fun _ => True) 2 (.pointer (some ⟨p, 1, none⟩)) rfl (by kernel_rfl) rfl (by kernel_rfl) (.inl fun _ => trivial) (by kernel_rfl) (Deaf.thens (Deaf.body RetM.not_panicked)) (fun w_ _ => (by kernel_rfl)) trivial ?_
    refine DW.take (T := fun w_ => PH.all w_ p = some (.cells #[(.slice am row.length cm), .map (some bm), .int .i64 next] 61 (0, 0))) 3 (.map (some bm)) rfl (by kernel_rfl) rfl (by kernel_rfl) (.inr (by simp only [List.mem_cons, true_or, or_true])) (by kernel_rfl) (Deaf.thens (Deaf.body RetM.not_panicked)) (fun w_ T_ => (q_load (off := 1) rfl (by kernel_rfl) (by kernel_rfl) T_ (by kernel_rfl))) ((G6.drew).own _ _ ((Bb.le.trans Oo.le) _ _ Ba.at)) ?_
    refine DW.take (T := fun _ => True) 4 (.pointer (some ⟨p, 0, none⟩)) rfl (by kernel_rfl) rfl (by kernel_rfl) (.inl fun _ => trivial) (by kernel_rfl) (Deaf.thens (Deaf.body RetM.not_panicked)) (fun w_ _ => (by kernel_rfl)) trivial ?_
    refine DW.take (T := fun _ => True) 5 (.pointer (some ⟨p, 0, none⟩)) rfl (by kernel_rfl) rfl (by kernel_rfl) (.inl fun _ => trivial) (by kernel_rfl) (Deaf.thens (Deaf.body RetM.not_panicked)) (fun w_ _ => (by kernel_rfl)) trivial ?_
    refine DW.take (T := fun _ => True) 6 (.pointer (some ⟨p, 0, none⟩)) rfl (by kernel_rfl) rfl (by kernel_rfl) (.inl fun _ => trivial) (by kernel_rfl) (Deaf.thens (Deaf.body RetM.not_panicked)) (fun w_ _ => (by kernel_rfl)) trivial ?_
    refine DW.take (T := fun w_ => PH.all w_ p = some (.cells #[(.slice am row.length cm), .map (some bm), .int .i64 next] 61 (0, 0))) 7 (.slice am row.length cm) rfl (by kernel_rfl) rfl (by kernel_rfl) (.inr (by simp only [List.mem_cons, true_or, or_true])) (by kernel_rfl) (Deaf.thens (Deaf.body RetM.not_panicked)) (fun w_ T_ => (q_load (off := 0) rfl (by kernel_rfl) (by kernel_rfl) T_ (by kernel_rfl))) ((G6.drew).own _ _ ((Bb.le.trans Oo.le) _ _ Ba.at)) ?_
    refine DW.take (T := fun _ => True) 8 (.int .i64 (pos : Int)) rfl (by kernel_rfl) rfl (by kernel_rfl) (.inl fun _ => trivial) (by kernel_rfl) (Deaf.thens (Deaf.body RetM.not_panicked)) (fun w_ _ => (by kernel_rfl)) trivial ?_
    refine DW.take (T := fun _ => True) 9 (eptr am (pos * factE.sz)) rfl (by kernel_rfl) rfl (by kernel_rfl) (.inl fun _ => trivial) (by kernel_rfl) (Deaf.thens (Deaf.body RetM.not_panicked)) (fun w_ _ => (q_indexAddr (i := pos) (E := factE) (xs := row) (e := 55) (c := cm) (k := .i64) (m := row.length) rfl rfl (by kernel_rfl) (by kernel_rfl) (by kernel_rfl) (Oo.reads.mono ((PH.le_refl _).trans (G6.drew).own)) (by omega))) trivial ?_
    refine DW.take (T := fun _ => True) 10 (eptr am (pos * factE.sz + 1)) rfl (by kernel_rfl) rfl (by kernel_rfl) (.inl fun _ => trivial) (by kernel_rfl) (Deaf.thens (Deaf.body RetM.not_panicked)) (fun w_ _ => (q_fieldAddr_e (i := pos) (k := pos * factE.sz) (off := 1) rfl (by kernel_rfl) (by kernel_rfl) (Oo.reads.mono ((PH.le_refl _).trans (G6.drew).own)) (by omega))) trivial ?_
    refine DW.take (T := fun w_ => RS (PH.all w_) factE am row) 11 (.string (((row.getD pos factE.dflt)).t)) rfl (by kernel_rfl) rfl (by kernel_rfl) (.inr (by simp only [List.mem_cons, true_or, or_true])) (by kernel_rfl) (Deaf.thens (Deaf.body RetM.not_panicked)) (fun w_ T_ => (q_load_e (i := pos) (k := 1) (E := factE) rfl (by kernel_rfl) (by kernel_rfl) T_ (by omega) (by decide) (by kernel_rfl))) (Oo.reads.mono ((PH.le_refl _).trans (G6.drew).own)) ?_
    refine DW.take (T := fun _ => True) 12 (.pointer (some ⟨p, 0, none⟩)) rfl (by kernel_rfl) rfl (by kernel_rfl) (.inl fun _ => trivial) (by kernel_rfl) (Deaf.thens (Deaf.body RetM.not_panicked)) (fun w_ _ => (by kernel_rfl)) trivial ?_
    refine DW.take (T := fun _ => True) 13 (.pointer (some ⟨p, 0, none⟩)) rfl (by kernel_rfl) rfl (by kernel_rfl) (.inl fun _ => trivial) (by kernel_rfl) (Deaf.thens (Deaf.body RetM.not_panicked)) (fun w_ _ => (by kernel_rfl)) trivial ?_
    refine DW.take (T := fun _ => True) 14 (.pointer (some ⟨p, 0, none⟩)) rfl (by kernel_rfl) rfl (by kernel_rfl) (.inl fun _ => trivial) (by kernel_rfl) (Deaf.thens (Deaf.body RetM.not_panicked)) (fun w_ _ => (by kernel_rfl)) trivial ?_
    refine DW.take (T := fun w_ => PH.all w_ p = some (.cells #[(.slice am row.length cm), .map (some bm), .int .i64 next] 61 (0, 0))) 15 (.slice am row.length cm) rfl (by kernel_rfl) rfl (by kernel_rfl) (.inr (by simp only [List.mem_cons, true_or, or_true])) (by kernel_rfl) (Deaf.thens (Deaf.body RetM.not_panicked)) (fun w_ T_ => (q_load (off := 0) rfl (by kernel_rfl) (by kernel_rfl) T_ (by kernel_rfl))) ((G6.drew).own _ _ ((Bb.le.trans Oo.le) _ _ Ba.at)) ?_
    refine DW.take (T := fun _ => True) 16 (.int .i64 (pos : Int)) rfl (by kernel_rfl) rfl (by kernel_rfl) (.inl fun _ => trivial) (by kernel_rfl) (Deaf.thens (Deaf.body RetM.not_panicked)) (fun w_ _ => (by kernel_rfl)) trivial ?_
    refine DW.take (T := fun _ => True) 17 (eptr am (pos * factE.sz)) rfl (by kernel_rfl) rfl (by kernel_rfl) (.inl fun _ => trivial) (by kernel_rfl) (Deaf.thens (Deaf.body RetM.not_panicked)) (fun w_ _ => (q_indexAddr (i := pos) (E := factE) (xs := row) (e := 55) (c := cm) (k := .i64) (m := row.length) rfl rfl (by kernel_rfl) (by kernel_rfl) (by kernel_rfl) (Oo.reads.mono ((PH.le_refl _).trans (G6.drew).own)) (by omega))) trivial ?_
    refine DW.take (T := fun _ => True) 18 (eptr am (pos * factE.sz + 2)) rfl (by kernel_rfl) rfl (by kernel_rfl) (.inl fun _ => trivial) (by kernel_rfl) (Deaf.thens (Deaf.body RetM.not_panicked)) (fun w_ _ => (q_fieldAddr_e (i := pos) (k := pos * factE.sz) (off := 2) rfl (by kernel_rfl) (by kernel_rfl) (Oo.reads.mono ((PH.le_refl _).trans (G6.drew).own)) (by omega))) trivial ?_
    refine DW.take (T := fun w_ => RS (PH.all w_) factE am row) 19 (.slice (((row.getD pos factE.dflt)).a) (((row.getD pos factE.dflt)).vals.length) (((row.getD pos factE.dflt)).c)) rfl (by kernel_rfl) rfl (by kernel_rfl) (.inr (by simp only [List.mem_cons, true_or, or_true])) (by kernel_rfl) (Deaf.thens (Deaf.body RetM.not_panicked)) (fun w_ T_ => (q_load_e (i := pos) (k := 2) (E := factE) rfl (by kernel_rfl) (by kernel_rfl) T_ (by omega) (by decide) (by kernel_rfl))) (Oo.reads.mono ((PH.le_refl _).trans (G6.drew).own)) ?_
    refine DW.only 20 (by kernel_rfl) ?_
    refine DOp.call rfl (by kernel_rfl) rfl (by kernel_rfl) (by kernel_rfl) (key_spec (G6.drew) (T.mono l6) (xs := (((row.getD pos factE.dflt)).vals)) (c := (((row.getD pos factE.dflt)).c)) ((gd _ (getD_mem (by omega))).mono l6) (R.ok _ (getD_mem (d := factE.dflt) hp1))) (Ret.elimD (fun w12 h12 l12 G12 => ⟨.inr (fun _ => (G12.own _ _ ((Bb.le.trans Oo.le) _ _ Ba.at))), .inr (fun _ => (G12.own _ _ ((Bb.le.trans Oo.le) _ _ Ba.at))), .inl (by kernel_rfl), .inr (fun _ => (G12.own _ _ ((Bb.le.trans Oo.le) _ _ Ba.at))), .inl (by kernel_rfl), trivial⟩) ?_)
    rintro w12 h12 _ l12 G12 rfl
    refine DW.only 21 (by kernel_rfl) ?_
    obtain ⟨N13, s14, s15⟩ : ∃ N_, Own 55 factE Ma N_ am cm row ∧ Blk bm (.map es clk) N_ M := Ly.swap (Ly.blk bm (.map es clk)) (Ly.own (E := factE) 55 am cm row) Bb Oo
    refine DOp.ex0 rfl (by kernel_rfl) rfl (by kernel_rfl) (q_mapDel (k := ((keyF (((row.getD pos factE.dflt)).t) (((row.getD pos factE.dflt)).vals)))) G12 s15 mi rfl mapT59 (by kernel_rfl) (by kernel_rfl)) (fun v_ w16 p_ => by obtain ⟨M16, es16, rfl, G16, B16, m16⟩ := p_; exact ⟨.inl (by kernel_rfl), .inr (fun _ => (G16.own _ _ ((s14.le.trans B16.le) _ _ Ba.at))), .inr (fun _ => (s14.reads.mono (B16.le.trans G16.own))), .inr (fun _ => (G16.own _ _ ((s14.le.trans B16.le) _ _ Ba.at))), .inr (fun _ => (s14.reads.mono (B16.le.trans G16.own))), trivial⟩) ?_
    rintro _ w16 ⟨M16, es16, rfl, G16, B16, m16⟩
    refine DW.done (by kernel_rfl) ?_
    refine EX.then_code ?_
    refine CW.seq ?_
    refine CW.region ?_
    refine WL.q (.pointer (some ⟨p, 0, none⟩)) (by kernel_rfl) rfl (by kernel_rfl) (by kernel_rfl) ?_
    refine WL.q (.pointer (some ⟨p, 0, none⟩)) (by kernel_rfl) rfl (by kernel_rfl) (by kernel_rfl) ?_
    refine WL.q (.pointer (some ⟨p, 0, none⟩)) (by kernel_rfl) rfl (by kernel_rfl) (by kernel_rfl) ?_
    refine WL.q (.pointer (some ⟨p, 0, none⟩)) (by kernel_rfl) rfl (by kernel_rfl) (by kernel_rfl) ?_
    refine WL.q (.slice am row.length cm) (by kernel_rfl) rfl (by kernel_rfl) (q_load (off := 0) rfl (by kernel_rfl) (by kernel_rfl) (G16.own _ _ ((s14.le.trans B16.le) _ _ Ba.at)) (by kernel_rfl)) ?_
    refine WL.q (.int .i64 (pos : Int)) (by kernel_rfl) rfl (by kernel_rfl) (by kernel_rfl) ?_
    refine WL.q (.int .i64 (pos : Int)) (by kernel_rfl) rfl (by kernel_rfl) (by kernel_rfl) ?_
    refine WL.q (.int .i64 ((pos + 1 : Nat) : Int)) (by kernel_rfl) rfl (by kernel_rfl) (q_int (x := IntKind.i64.wrap ((pos : Int) + 1)) (by kernel_rfl) (wrap_to (by omega) (by omega) (by omega))) ?_
    obtain ⟨N17, s18, s19⟩ : ∃ N_, Blk bm (.map es16 clk) Ma N_ ∧ Own 55 factE N_ M16 am cm row := Ly.swap (Ly.own (E := factE) 55 am cm row) (Ly.blk bm (.map es16 clk)) s14 B16
    refine WL.call (by kernel_rfl) rfl (by kernel_rfl) (by kernel_rfl) (delF_spec G16 s19 (by have := R.len; omega) (i := pos) (j := pos + 1) (by omega) (by omega)) (RetM.elim ?_)
    rintro w20 h20 M20 _ l20 G20 ⟨rfl, O20⟩
    refine WL.q (.pointer (some ⟨p, 0, none⟩)) (by kernel_rfl) rfl (by kernel_rfl) (by kernel_rfl) ?_
    refine WL.q (.pointer (some ⟨p, 0, none⟩)) (by kernel_rfl) rfl (by kernel_rfl) (by kernel_rfl) ?_
    obtain ⟨N21, s22, s23⟩ : ∃ N_, Blk bm (.map es16 clk) M0 N_ ∧ Blk p (.cells #[(.slice am row.length cm), .map (some bm), .int .i64 next] 61 (0, 0)) N_ N17 := Ly.swap (Ly.blk p (.cells #[(.slice am row.length cm), .map (some bm), .int .i64 next] 61 (0, 0))) (Ly.blk bm (.map es16 clk)) Ba s18
    obtain ⟨N24, s25, s26⟩ : ∃ N_, Own 55 factE N21 N_ am cm (row.take pos ++ row.drop (pos + 1)) ∧ Blk p (.cells #[(.slice am row.length cm), .map (some bm), .int .i64 next] 61 (0, 0)) N_ M20 := Ly.swap (Ly.blk p (.cells #[(.slice am row.length cm), .map (some bm), .int .i64 next] 61 (0, 0))) (Ly.own (E := factE) 55 am cm (row.take pos ++ row.drop (pos + 1))) s23 O20
    refine WL.exu (by kernel_rfl) rfl (by kernel_rfl) (q_storeB (off := 0) (et := 61) (v := (.slice am ((row.take pos ++ row.drop (pos + 1)).length) cm)) (vs := [(.slice am ((row.take pos ++ row.drop (pos + 1)).length) cm)]) #[(.slice am ((row.take pos ++ row.drop (pos + 1)).length) cm), (.map (some bm)), (.int .i64 next)] G20 s26 rfl (by kernel_rfl) (by kernel_rfl) (by kernel_rfl) (by kernel_rfl) (by simp [Value.oneCell']) (by simp) (by kernel_rfl)) ?_
    rintro w27 ⟨M27, G27, B27⟩
    refine WL.nil ?_
    refine EX.then_code ?_
    refine CW.seq ?_
    refine CW.region ?_
    refine WL.q (.bool true) (by kernel_rfl) rfl (by kernel_rfl) (by kernel_rfl) ?_
    refine WL.nil ?_
    refine EX.then_code ?_
    refine CW.ret ?_
    refine EX.ret1 (v := (.bool true)) rfl (by kernel_rfl) ?_
    obtain ⟨N28, s29, s30⟩ : ∃ N_, Own 55 factE M0 N_ am cm (row.take pos ++ row.drop (pos + 1)) ∧ Blk bm (.map es16 clk) N_ N24 := Ly.swap (Ly.blk bm (.map es16 clk)) (Ly.own (E := factE) 55 am cm (row.take pos ++ row.drop (pos + 1))) s22 s25
    obtain ⟨N31, s32, s33⟩ : ∃ N_, Blk p (.cells #[(.slice am ((row.take pos ++ row.drop (pos + 1)).length) cm), (.map (some bm)), (.int .i64 next)] 61 (0, 0)) N28 N_ ∧ Blk bm (.map es16 clk) N_ M27 := Ly.swap (Ly.blk bm (.map es16 clk)) (Ly.blk p (.cells #[(.slice am ((row.take pos ++ row.drop (pos + 1)).length) cm), (.map (some bm)), (.int .i64 next)] 61 (0, 0))) s30 B27
    obtain ⟨N34, s35, s36⟩ : ∃ N_, Blk p (.cells #[(.slice am ((row.take pos ++ row.drop (pos + 1)).length) cm), (.map (some bm)), (.int .i64 next)] 61 (0, 0)) M0 N_ ∧ Own 55 factE N_ N31 am cm (row.take pos ++ row.drop (pos + 1)) := Ly.swap (Ly.own (E := factE) 55 am cm (row.take pos ++ row.drop (pos + 1))) (Ly.blk p (.cells #[(.slice am ((row.take pos ++ row.drop (pos + 1)).length) cm), (.map (some bm)), (.int .i64 next)] 61 (0, 0))) s29 s32
    obtain ⟨N37, s38, s39⟩ : ∃ N_, Blk bm (.map es16 clk) N34 N_ ∧ Own 55 factE N_ M27 am cm (row.take pos ++ row.drop (pos + 1)) := Ly.swap (Ly.own (E := factE) 55 am cm (row.take pos ++ row.drop (pos + 1))) (Ly.blk bm (.map es16 clk)) s36 s33
    have hd_ := del_ids R hp1
    rw [hp2] at hd_
    have he_ := ents_del R.keys hp1
    exact RetM.mk ((l6.trans l12).trans l20) G27 ⟨by rw [any_yes hp1 hp2], ⟨_, _, _, _, _, _, _, hd_ ▸ s35, s38, hd_ ▸ s39, hd_ ▸ (he_ ▸ m16), hd_ ▸ (all_app (all_take (i := pos) (all_up @factG.mono ((l6.trans l12).trans l20) gd)) (all_drop (i := pos + 1) (all_up @factG.mono ((l6.trans l12).trans l20) gd)))⟩⟩

theorem get_spec {K : Key} {w : World} {h M0 M Mt : PH} (G : Wld K w h M) {p : Nat} {row : List FactD} {next : Int} (A : MemL h p row next M0 Mt) (hM : PH.le Mt M) (R : RowOk row next) (id : Int) :
    Calls Tryd.prog 22 #[.pointer (some ⟨p, 0, none⟩), .int .i64 id] w (Ret K h M fun h' v => ∃ f found, v = .tuple #[.agg (factE.enc f).toArray, .bool found] ∧
      (found = true → ∃ q ∈ row, q.id = id ∧ dat f = dat q ∧ factG h' f) ∧ (found = false → ∀ q ∈ row, q.id ≠ id)) := by
  obtain ⟨bm, am, cm, es, clk, Ma, Mb, Ba, Bb, Oo, mi, gd⟩ := A
  have hrl := R.len
  refine enter (l := [(.pointer (some ⟨p, 0, none⟩)), (.int .i64 id)]) Tryd.func22 rfl Tryd.ntmps22 (Nat.le_of_ble_eq_true rfl) ?_
  simp only [params]
  refine CW.seq ?_
  refine CW.region ?_
  refine WL.ex (by kernel_rfl) rfl (by kernel_rfl) (q_newB (ob := (.cells #[(.int .i64 0), (.string (ByteArray.mk #[])), (.slice none 0 0)] 55 (0, 0))) G (fun b_ => .pointer (some ⟨b_, 0, none⟩)) (fun u_ => by kernel_rfl)) ?_
  rintro _ w40 ⟨b40, M40, rfl, G40, B40, L40⟩
  refine WL.q (.bool false) (by kernel_rfl) rfl (by kernel_rfl) (by kernel_rfl) ?_
  refine WL.nil ?_
  refine EX.then_code ?_
  refine CW.seq ?_
  refine CW.region ?_
  refine WL.q (.pointer (some ⟨p, 0, none⟩)) (by kernel_rfl) rfl (by kernel_rfl) (by kernel_rfl) ?_
  refine WL.q (.int .i64 id) (by kernel_rfl) rfl (by kernel_rfl) (by kernel_rfl) ?_
  refine WL.call (by kernel_rfl) rfl (by kernel_rfl) (by kernel_rfl) (at_spec G40 ⟨bm, am, cm, es, clk, Ma, Mb, Ba, Bb, Oo, mi, gd⟩ (hM.trans B40.le) R id) (Ret.elim ?_)
  rintro w41 h41 _ l41 G41 ⟨pos, found, rfl, hq1, hq2, hq3⟩
  refine WL.q (.tuple #[(.int .i64 (pos : Int)), (.bool found)]) (by kernel_rfl) rfl (by kernel_rfl) (by kernel_rfl) ?_
  refine WL.q (.int .i64 (pos : Int)) (by kernel_rfl) rfl (by kernel_rfl) (by kernel_rfl) ?_
  refine WL.q (.bool found) (by kernel_rfl) rfl (by kernel_rfl) (by kernel_rfl) ?_
  refine WL.q (.int .i64 (pos : Int)) (by kernel_rfl) rfl (by kernel_rfl) (by kernel_rfl) ?_
  refine WL.q (.bool found) (by kernel_rfl) rfl (by kernel_rfl) (by kernel_rfl) ?_
  refine WL.nil ?_
  refine EX.then_code ?_
  refine CW.seq ?_
  refine CW.seq ?_
  refine CW.region ?_
  refine WL.q (.bool found) (by kernel_rfl) rfl (by kernel_rfl) (by kernel_rfl) ?_
  refine WL.q (.bool (!found)) (by kernel_rfl) rfl (by kernel_rfl) (by kernel_rfl) ?_
  refine WL.nil ?_
  refine EX.then_code ?_
  refine CW.cond (!found) (by kernel_rfl) (by kernel_rfl) (fun c42 => ?_) (fun c42 => ?_)
  ·
    skip
    have d43 := not_true c42
    refine CW.seq ?_
    refine CW.region ?_
    refine WL.q (.agg #[(.int .i64 0), (.string (ByteArray.mk #[])), (.slice none 0 0)]) (by kernel_rfl) rfl (by kernel_rfl) (by kernel_rfl) ?_
    refine WL.exu (by kernel_rfl) rfl (by kernel_rfl) (q_storeB (off := 0) (et := 55) (v := (.agg #[(.int .i64 0), (.string (ByteArray.mk #[])), (.slice none 0 0)])) (vs := [(.int .i64 0), (.string (ByteArray.mk #[])), (.slice none 0 0)]) #[(.int .i64 0), (.string (ByteArray.mk #[])), (.slice none 0 0)] G41 B40 rfl (by kernel_rfl) (by kernel_rfl) (by kernel_rfl) (by kernel_rfl) (by simp [Value.oneCell']) (by simp) (by kernel_rfl)) ?_
    rintro w45 ⟨M45, G45, B45⟩
    refine WL.q (.bool false) (by kernel_rfl) rfl (by kernel_rfl) (by kernel_rfl) ?_
    refine WL.nil ?_
    refine EX.then_code ?_
    refine CW.ret ?_
    refine EX.ret_then ?_
    refine EX.retCell2 (vs := [(.int .i64 0), (.string (ByteArray.mk #[])), (.slice none 0 0)]) (x := (.bool false)) rfl (by kernel_rfl) (by kernel_rfl) (G45.own _ _ B45.at) (agg_at (by kernel_rfl)) (by kernel_rfl) ?_
    exact Ret.mk l41 (G45.drop B45.le) ⟨factE.dflt, false, rfl, fun e_ => absurd e_ (by decide), fun _ => hq3 (not_true c42)⟩
  ·
    skip
    have d46 := not_false c42
    refine CW.skip ?_
    refine EX.then_code ?_
    refine CW.seq ?_
    refine CW.region ?_
    obtain ⟨hp1, hp2⟩ := hq2 (not_false c42)
    refine WL.q (.pointer (some ⟨p, 0, none⟩)) (by kernel_rfl) rfl (by kernel_rfl) (by kernel_rfl) ?_
    refine WL.q (.pointer (some ⟨p, 0, none⟩)) (by kernel_rfl) rfl (by kernel_rfl) (by kernel_rfl) ?_
    refine WL.q (.pointer (some ⟨p, 0, none⟩)) (by kernel_rfl) rfl (by kernel_rfl) (by kernel_rfl) ?_
    refine WL.q (.slice am row.length cm) (by kernel_rfl) rfl (by kernel_rfl) (q_load (off := 0) rfl (by kernel_rfl) (by kernel_rfl) (G41.own _ _ ((((Bb.le.trans Oo.le).trans hM).trans B40.le) _ _ Ba.at)) (by kernel_rfl)) ?_
    refine WL.q (.int .i64 (pos : Int)) (by kernel_rfl) rfl (by kernel_rfl) (by kernel_rfl) ?_
    refine WL.q (eptr am (pos * factE.sz)) (by kernel_rfl) rfl (by kernel_rfl) (q_indexAddr (i := pos) (E := factE) (xs := row) (e := 55) (c := cm) (k := .i64) (m := row.length) rfl rfl (by kernel_rfl) (by kernel_rfl) (by kernel_rfl) (Oo.reads.mono ((hM.trans B40.le).trans G41.own)) (by omega)) ?_
    refine WL.q (.agg #[(.int .i64 (((row.getD pos factE.dflt)).id)), (.string (((row.getD pos factE.dflt)).t)), (.slice (((row.getD pos factE.dflt)).a) (((row.getD pos factE.dflt)).vals.length) (((row.getD pos factE.dflt)).c))]) (by kernel_rfl) rfl (by kernel_rfl) (q_val (q_loadAgg_e (i := pos) (E := factE) rfl (by kernel_rfl) (by kernel_rfl) (Oo.reads.mono ((hM.trans B40.le).trans G41.own)) (by omega)) (by kernel_rfl)) ?_
    refine WL.call (by kernel_rfl) rfl (by kernel_rfl) (by kernel_rfl) (apart_spec (f := (FactD.mk (((row.getD pos factE.dflt)).id) (((row.getD pos factE.dflt)).t) (((row.getD pos factE.dflt)).a) (((row.getD pos factE.dflt)).vals) (((row.getD pos factE.dflt)).c))) G41 (show factG h41 (FactD.mk (((row.getD pos factE.dflt)).id) (((row.getD pos factE.dflt)).t) (((row.getD pos factE.dflt)).a) (((row.getD pos factE.dflt)).vals) (((row.getD pos factE.dflt)).c)) from ((gd _ (getD_mem (by omega))).mono l41)) (Nat.le_trans (R.ok _ (getD_mem (d := factE.dflt) hp1)).2.1 (by decide))) (RetM.elim ?_)
    rintro w48 h48 M48 _ l48 G48 ⟨a48, k48, rfl, o48⟩
    obtain ⟨h49, l49, G49, r49⟩ := o48.freeze G48
    refine WL.exu (by kernel_rfl) rfl (by kernel_rfl) (q_storeB (off := 0) (et := 55) (v := (.agg #[(.int .i64 (((row.getD pos factE.dflt)).id)), (.string (((row.getD pos factE.dflt)).t)), (.slice a48 ((((row.getD pos factE.dflt)).vals).length) ((((row.getD pos factE.dflt)).vals).length))])) (vs := [(.int .i64 (((row.getD pos factE.dflt)).id)), (.string (((row.getD pos factE.dflt)).t)), (.slice a48 ((((row.getD pos factE.dflt)).vals).length) ((((row.getD pos factE.dflt)).vals).length))]) #[(.int .i64 (((row.getD pos factE.dflt)).id)), (.string (((row.getD pos factE.dflt)).t)), (.slice a48 ((((row.getD pos factE.dflt)).vals).length) ((((row.getD pos factE.dflt)).vals).length))] G49 B40 rfl (by kernel_rfl) (by kernel_rfl) (by kernel_rfl) (by kernel_rfl) (by simp [Value.oneCell']) (by simp) (by kernel_rfl)) ?_
    rintro w50 ⟨M50, G50, B50⟩
    refine WL.q (.bool true) (by kernel_rfl) rfl (by kernel_rfl) (by kernel_rfl) ?_
    refine WL.nil ?_
    refine EX.then_code ?_
    refine CW.ret ?_
    refine EX.retCell2 (vs := [(.int .i64 (((row.getD pos factE.dflt)).id)), (.string (((row.getD pos factE.dflt)).t)), (.slice a48 ((((row.getD pos factE.dflt)).vals).length) ((((row.getD pos factE.dflt)).vals).length))]) (x := (.bool true)) rfl (by kernel_rfl) (by kernel_rfl) (G50.own _ _ B50.at) (agg_at (by kernel_rfl)) (by kernel_rfl) ?_
    exact Ret.mk ((l41.trans l48).trans l49) (G50.drop B50.le) ⟨(FactD.mk (((row.getD pos factE.dflt)).id) (((row.getD pos factE.dflt)).t) a48 (((row.getD pos factE.dflt)).vals) ((((row.getD pos factE.dflt)).vals).length)), true, rfl, fun _ => ⟨_, getD_mem hp1, hp2, rfl, (r49.mono (PH.le_refl _))⟩, fun e_ => absurd e_ (by decide)⟩
end Go.Proofs
