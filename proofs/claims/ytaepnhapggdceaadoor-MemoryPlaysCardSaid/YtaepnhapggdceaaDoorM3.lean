import Derived.Test.YtaepnhapggdceaaDoorM2
import Derived.Test.YtaepnhapggdceaaDoorLib13
namespace Go.Proofs
open Go Go.Wk
theorem delF_spec {K : Key} {w : World} {h M : PH} (G : Wld K w h M) {M0 : PH} {a : Option Addr} {xs : List FactD} {c : Nat} (own : Own 55 factE M0 M a c xs) (hb : xs.length ≤ 1000000) {i j : Nat} (hij : i < j) (hj : j ≤ xs.length) :
    Calls Tryd.prog 26 #[.slice a xs.length c, .int .i64 (i : Nat), .int .i64 (j : Nat)] w (RetM K h fun h' M' v => v = .slice a (xs.take i ++ xs.drop j).length c ∧ Own 55 factE M0 M' a c (xs.take i ++ xs.drop j)) := by
  have hcl := own.cap_le
  have hlen : (xs.take i ++ xs.drop j).length = i + (xs.length - j) := by simp only [List.length_append, List.length_take, List.length_drop]; omega
  refine enter (l := [(.slice a xs.length c), (.int .i64 (i : Int)), (.int .i64 (j : Int))]) Tryd.func26 rfl Tryd.ntmps26 (Nat.le_of_ble_eq_true rfl) ?_
  simp only [params]
  refine CW.seq ?_
  refine CW.region ?_
  refine WL.q (.slice none 0 0) (by kernel_rfl) rfl (by kernel_rfl) (by kernel_rfl) ?_
  refine WL.nil ?_
  refine EX.then_code ?_
  refine CW.seq ?_
  refine CW.region ?_
  refine WL.q (.slice a xs.length c) (by kernel_rfl) rfl (by kernel_rfl) (by kernel_rfl) ?_
  refine WL.q (.int .i64 (i : Int)) (by kernel_rfl) rfl (by kernel_rfl) (by kernel_rfl) ?_
  refine WL.q (.int .i64 (j : Int)) (by kernel_rfl) rfl (by kernel_rfl) (by kernel_rfl) ?_
  refine WL.q (.slice a xs.length c) (by kernel_rfl) rfl (by kernel_rfl) (by kernel_rfl) ?_
  refine WL.q (.int .i64 (xs.length : Int)) (by kernel_rfl) rfl (by kernel_rfl) (by kernel_rfl) ?_
  refine WL.q (.slice (aft a xs.length i 3) (j - i) (xs.length - i)) (by kernel_rfl) rfl (by kernel_rfl) (q_slice3 (e := 55) (sz := 3) (len := xs.length) (cap := c) (lo := i) (hi := j) (mx := xs.length) (k := .i64) (k' := .i64) (k'' := .i64) rfl (by kernel_rfl) (by kernel_rfl) (by kernel_rfl) (by kernel_rfl) (by kernel_rfl) (by omega) (by omega) (by have q_ := own.cap_le; first | omega | (simp only [List.length_take, List.length_append, List.length_drop] at q_; omega))) ?_
  refine WL.nil ?_
  refine EX.then_code ?_
  refine CW.seq ?_
  refine CW.seq ?_
  refine CW.region ?_
  refine WL.q (.int .i64 (i : Int)) (by kernel_rfl) rfl (by kernel_rfl) (by kernel_rfl) ?_
  refine WL.q (.int .i64 (j : Int)) (by kernel_rfl) rfl (by kernel_rfl) (by kernel_rfl) ?_
  refine WL.q (.bool (((i : Int) : Int) == (j : Int))) (by kernel_rfl) rfl (by kernel_rfl) (by kernel_rfl) ?_
  refine WL.nil ?_
  refine EX.then_code ?_
  refine CW.cond (((i : Int) : Int) == (j : Int)) (by kernel_rfl) (by kernel_rfl) (fun c1 => ?_) (fun c1 => ?_)
  ·
    skip
    have d2 := eq_of_beq c1
    refine CW.seq ?_
    refine CW.region ?_
    refine WL.q (.slice a xs.length c) (by kernel_rfl) rfl (by kernel_rfl) (by kernel_rfl) ?_
    refine WL.q (.slice a xs.length c) (by kernel_rfl) rfl (by kernel_rfl) (by kernel_rfl) ?_
    refine WL.nil ?_
    refine EX.then_code ?_
    refine CW.ret ?_
    refine EX.ret_then ?_
    refine EX.ret1 (v := (.slice a xs.length c)) rfl (by kernel_rfl) ?_
    exfalso; omega
  ·
    skip
    have d3 := ne_of_beq_false c1
    refine CW.skip ?_
    refine EX.then_code ?_
    refine CW.seq ?_
    refine CW.region ?_
    refine WL.q (.slice a xs.length c) (by kernel_rfl) rfl (by kernel_rfl) (by kernel_rfl) ?_
    refine WL.q (.int .i64 (xs.length : Int)) (by kernel_rfl) rfl (by kernel_rfl) (by kernel_rfl) ?_
    refine WL.q (.int .i64 (xs.length : Int)) (by kernel_rfl) rfl (by kernel_rfl) (by kernel_rfl) ?_
    refine WL.nil ?_
    refine EX.then_code ?_
    refine CW.seq ?_
    refine CW.draw (by kernel_rfl) [] ?_
    refine DW.take (T := fun _ => True) 0 (.slice a xs.length c) rfl (by kernel_rfl) rfl (by kernel_rfl) (.inl fun _ => trivial) (by kernel_rfl) (Deaf.thens (Deaf.body RetM.not_panicked)) (fun w_ _ => (by kernel_rfl)) trivial ?_
    refine DW.take (T := fun _ => True) 1 (.int .i64 (i : Int)) rfl (by kernel_rfl) rfl (by kernel_rfl) (.inl fun _ => trivial) (by kernel_rfl) (Deaf.thens (Deaf.body RetM.not_panicked)) (fun w_ _ => (by kernel_rfl)) trivial ?_
    refine DW.take (T := fun _ => True) 2 (.slice a i c) rfl (by kernel_rfl) rfl (by kernel_rfl) (.inl fun _ => trivial) (by kernel_rfl) (Deaf.thens (Deaf.body RetM.not_panicked)) (fun w_ _ => (q_upto (e := 55) (sz := 3) (len := xs.length) (cap := c) (k := .i64) rfl (by kernel_rfl) (by kernel_rfl) (by kernel_rfl) (by have q_ := own.cap_le; first | omega | (simp only [List.length_take, List.length_append, List.length_drop] at q_; omega)))) trivial ?_
    refine DW.take (T := fun _ => True) 3 (.slice a xs.length c) rfl (by kernel_rfl) rfl (by kernel_rfl) (.inl fun _ => trivial) (by kernel_rfl) (Deaf.thens (Deaf.body RetM.not_panicked)) (fun w_ _ => (by kernel_rfl)) trivial ?_
    refine DW.take (T := fun _ => True) 4 (.int .i64 (j : Int)) rfl (by kernel_rfl) rfl (by kernel_rfl) (.inl fun _ => trivial) (by kernel_rfl) (Deaf.thens (Deaf.body RetM.not_panicked)) (fun w_ _ => (by kernel_rfl)) trivial ?_
    refine DW.take (T := fun _ => True) 5 (.slice (aft a c j 3) (xs.length - j) (c - j)) rfl (by kernel_rfl) rfl (by kernel_rfl) (.inl fun _ => trivial) (by kernel_rfl) (Deaf.thens (Deaf.body RetM.not_panicked)) (fun w_ _ => (q_from (e := 55) (sz := 3) (len := xs.length) (cap := c) (lo := j) (k := .i64) rfl (by kernel_rfl) (by kernel_rfl) (by kernel_rfl) (by omega))) trivial ?_
    refine DW.only 6 (by kernel_rfl) ?_
    refine DOp.ex rfl (by kernel_rfl) rfl (by kernel_rfl) (q_appRoom (e := 55) (bytes := 48) (cap := c) (c2 := (c - j)) (xs := xs.take i) (ys := xs.drop j) (G.drew) (own.take i (by omega)) ((own.reads.mono (G.drew).own).aft (by omega) own.cap_le) rfl (by kernel_rfl) ((show _ = Value.slice a i c by kernel_rfl).trans (by rw [List.length_take, Nat.min_eq_left (by omega)])) ((show _ = Value.slice (aft a c j 3) (xs.length - j) (c - j) by kernel_rfl).trans (by rw [List.length_drop]; rfl)) (by have q_ := own.cap_le; simp only [List.length_take, List.length_drop]; omega)) (fun v_ w4 p_ => by obtain ⟨M4, rfl, G4, o4⟩ := p_; exact trivial) ?_
    rintro _ w4 ⟨M4, rfl, G4, o4⟩
    refine DW.take (T := fun _ => True) 7 (.slice a ((xs.take i ++ xs.drop j).length) c) rfl (by kernel_rfl) rfl (by kernel_rfl) (.inl fun _ => trivial) (by kernel_rfl) (Deaf.thens (Deaf.body RetM.not_panicked)) (fun w_ _ => (by kernel_rfl)) trivial ?_
    refine DW.done (by kernel_rfl) ?_
    refine EX.then_code ?_
    refine CW.seq ?_
    refine CW.region ?_
    refine WL.q (.slice a ((xs.take i ++ xs.drop j).length) c) (by kernel_rfl) rfl (by kernel_rfl) (by kernel_rfl) ?_
    refine WL.q (.slice a ((xs.take i ++ xs.drop j).length) c) (by kernel_rfl) rfl (by kernel_rfl) (by kernel_rfl) ?_
    refine WL.q (.int .i64 ((xs.take i ++ xs.drop j).length : Int)) (by kernel_rfl) rfl (by kernel_rfl) (by kernel_rfl) ?_
    refine WL.q (.int .i64 (xs.length : Int)) (by kernel_rfl) rfl (by kernel_rfl) (by kernel_rfl) ?_
    refine WL.q (.slice (aft a c ((xs.take i ++ xs.drop j).length) 3) (xs.length - ((xs.take i ++ xs.drop j).length)) (c - ((xs.take i ++ xs.drop j).length))) (by kernel_rfl) rfl (by kernel_rfl) (q_lohi (e := 55) (sz := 3) (len := ((xs.take i ++ xs.drop j).length)) (cap := c) (lo := ((xs.take i ++ xs.drop j).length)) (hi := xs.length) (k := .i64) (k' := .i64) rfl (by kernel_rfl) (by kernel_rfl) (by kernel_rfl) (by kernel_rfl) (by omega) (by have q_ := o4.cap_le; first | omega | (simp only [List.length_take, List.length_append, List.length_drop] at q_; omega))) ?_
    refine WL.ex0 (by kernel_rfl) rfl (by kernel_rfl) (q_clearOut (e := 55) (z := (.agg #[(.int .i64 0), (.string (ByteArray.mk #[])), (.slice none 0 0)])) (lo := (xs.take i ++ xs.drop j).length) (m := xs.length - (xs.take i ++ xs.drop j).length) (cap := c) G4 o4 (Nat.le_refl _) (by have q_ := own.cap_le; simp only [List.length_append, List.length_take, List.length_drop]; omega) rfl (by kernel_rfl) (by kernel_rfl) (by kernel_rfl) (by simp [Value.oneCell', Value.cells]) (by kernel_rfl)) ?_
    rintro _ w5 ⟨M5, rfl, G5, o5⟩
    refine WL.nil ?_
    refine EX.then_code ?_
    refine CW.seq ?_
    refine CW.region ?_
    refine WL.q (.slice a ((xs.take i ++ xs.drop j).length) c) (by kernel_rfl) rfl (by kernel_rfl) (by kernel_rfl) ?_
    refine WL.q (.slice a ((xs.take i ++ xs.drop j).length) c) (by kernel_rfl) rfl (by kernel_rfl) (by kernel_rfl) ?_
    refine WL.nil ?_
    refine EX.then_code ?_
    refine CW.ret ?_
    refine EX.ret1 (v := (.slice a ((xs.take i ++ xs.drop j).length) c)) rfl (by kernel_rfl) ?_
    exact RetM.mk (PH.le_refl _) G5 (⟨rfl, o5⟩)

theorem apart_spec {K : Key} {w : World} {h M : PH} (G : Wld K w h M) {f : FactD} (Hf : factG h f) (hb : f.vals.length ≤ 1000000) :
    Calls Tryd.prog 24 #[.agg (factE.enc f).toArray] w (RetM K h fun h' M' v => ∃ a k, v = .agg (factE.enc (FactD.mk f.id f.t a f.vals f.vals.length)).toArray ∧ Own 29 valE M M' a k f.vals) := by
  refine enter (l := [(.agg #[(.int .i64 ((f).id)), (.string ((f).t)), (.slice ((f).a) ((f).vals.length) ((f).c))])]) Tryd.func24 rfl Tryd.ntmps24 (Nat.le_of_ble_eq_true rfl) ?_
  simp only [params]
  refine CW.seq ?_
  refine CW.region ?_
  refine WL.ex (by kernel_rfl) rfl (by kernel_rfl) (q_newB (ob := (.cells #[(.int .i64 ((f).id)), (.string ((f).t)), (.slice ((f).a) ((f).vals.length) ((f).c))] 55 (0, 0))) G (fun b_ => .pointer (some ⟨b_, 0, none⟩)) (fun u_ => by kernel_rfl)) ?_
  rintro _ w6 ⟨b6, M6, rfl, G6, B6, L6⟩
  refine WL.ex (by kernel_rfl) rfl (by kernel_rfl) (q_newB (ob := (.cells #[(.int .i64 0), (.string (ByteArray.mk #[])), (.slice none 0 0)] 55 (0, 0))) G6 (fun b_ => .pointer (some ⟨b_, 0, none⟩)) (fun u_ => by kernel_rfl)) ?_
  rintro _ w7 ⟨b7, M7, rfl, G7, B7, L7⟩
  refine WL.nil ?_
  refine EX.then_code ?_
  refine CW.seq ?_
  refine CW.region ?_
  refine WL.q (.pointer (some ⟨b6, 2, none⟩)) (by kernel_rfl) rfl (by kernel_rfl) (by kernel_rfl) ?_
  refine WL.q (.slice ((f).a) ((f).vals.length) ((f).c)) (by kernel_rfl) rfl (by kernel_rfl) (q_load (off := 2) rfl (by kernel_rfl) (by kernel_rfl) (G7.own _ _ (B7.le _ _ B6.at)) (by kernel_rfl)) ?_
  refine WL.call (by kernel_rfl) rfl (by kernel_rfl) (by kernel_rfl) (cloneV_spec (xs := ((f).vals)) (c := ((f).c)) G7 (Hf.mono ((PH.le_refl _).trans G7.imm)) (by omega)) (RetM.elim ?_)
  rintro w9 h9 M9 _ l9 G9 ⟨a9, k9, rfl, o9, z9⟩
  refine WL.call (by kernel_rfl) rfl (by kernel_rfl) (by kernel_rfl) (clipV_spec (a := a9) (m := (((f).vals).length)) (c := k9) G9 (by have q_ := o9.cap_le; first | omega | (simp only [List.length_take, List.length_append, List.length_drop] at q_; omega))) (Ret.elim ?_)
  rintro w10 h10 _ l10 G10 rfl
  refine WL.q (.pointer (some ⟨b6, 2, none⟩)) (by kernel_rfl) rfl (by kernel_rfl) (by kernel_rfl) ?_
  obtain ⟨N11, s12, s13⟩ : ∃ N_, Blk b7 (.cells #[(.int .i64 0), (.string (ByteArray.mk #[])), (.slice none 0 0)] 55 (0, 0)) M N_ ∧ Blk b6 (.cells #[(.int .i64 ((f).id)), (.string ((f).t)), (.slice ((f).a) ((f).vals.length) ((f).c))] 55 (0, 0)) N_ M7 := Ly.swap (Ly.blk b6 (.cells #[(.int .i64 ((f).id)), (.string ((f).t)), (.slice ((f).a) ((f).vals.length) ((f).c))] 55 (0, 0))) (Ly.blk b7 (.cells #[(.int .i64 0), (.string (ByteArray.mk #[])), (.slice none 0 0)] 55 (0, 0))) B6 B7
  obtain ⟨N14, s15, s16⟩ : ∃ N_, Own 29 valE N11 N_ a9 k9 ((f).vals) ∧ Blk b6 (.cells #[(.int .i64 ((f).id)), (.string ((f).t)), (.slice ((f).a) ((f).vals.length) ((f).c))] 55 (0, 0)) N_ M9 := Ly.swap (Ly.blk b6 (.cells #[(.int .i64 ((f).id)), (.string ((f).t)), (.slice ((f).a) ((f).vals.length) ((f).c))] 55 (0, 0))) (Ly.own (E := valE) 29 a9 k9 ((f).vals)) s13 o9
  refine WL.exu (by kernel_rfl) rfl (by kernel_rfl) (q_storeB (off := 2) (et := 55) (v := (.slice a9 (((f).vals).length) (((f).vals).length))) (vs := [(.slice a9 (((f).vals).length) (((f).vals).length))]) #[(.int .i64 ((f).id)), (.string ((f).t)), (.slice a9 (((f).vals).length) (((f).vals).length))] G10 s16 rfl (by kernel_rfl) (by kernel_rfl) (by kernel_rfl) (by kernel_rfl) (by simp [Value.oneCell']) (by simp) (by kernel_rfl)) ?_
  rintro w17 ⟨M17, G17, B17⟩
  refine WL.nil ?_
  refine EX.then_code ?_
  refine CW.seq ?_
  refine CW.region ?_
  refine WL.q (.agg #[(.int .i64 ((f).id)), (.string ((f).t)), (.slice a9 (((f).vals).length) (((f).vals).length))]) (by kernel_rfl) rfl (by kernel_rfl) (q_loadAgg (off := 0) (vs := [(.int .i64 ((f).id)), (.string ((f).t)), (.slice a9 (((f).vals).length) (((f).vals).length))]) rfl (by kernel_rfl) (by kernel_rfl) (G17.own _ _ B17.at) (agg_at (by kernel_rfl))) ?_
  obtain ⟨N18, s19, s20⟩ : ∃ N_, Own 29 valE M N_ a9 k9 ((f).vals) ∧ Blk b7 (.cells #[(.int .i64 0), (.string (ByteArray.mk #[])), (.slice none 0 0)] 55 (0, 0)) N_ N14 := Ly.swap (Ly.blk b7 (.cells #[(.int .i64 0), (.string (ByteArray.mk #[])), (.slice none 0 0)] 55 (0, 0))) (Ly.own (E := valE) 29 a9 k9 ((f).vals)) s12 s15
  obtain ⟨N21, s22, s23⟩ : ∃ N_, Blk b6 (.cells #[(.int .i64 ((f).id)), (.string ((f).t)), (.slice a9 (((f).vals).length) (((f).vals).length))] 55 (0, 0)) N18 N_ ∧ Blk b7 (.cells #[(.int .i64 0), (.string (ByteArray.mk #[])), (.slice none 0 0)] 55 (0, 0)) N_ M17 := Ly.swap (Ly.blk b7 (.cells #[(.int .i64 0), (.string (ByteArray.mk #[])), (.slice none 0 0)] 55 (0, 0))) (Ly.blk b6 (.cells #[(.int .i64 ((f).id)), (.string ((f).t)), (.slice a9 (((f).vals).length) (((f).vals).length))] 55 (0, 0))) s20 B17
  refine WL.exu (by kernel_rfl) rfl (by kernel_rfl) (q_storeB (off := 0) (et := 55) (v := (.agg #[(.int .i64 ((f).id)), (.string ((f).t)), (.slice a9 (((f).vals).length) (((f).vals).length))])) (vs := [(.int .i64 ((f).id)), (.string ((f).t)), (.slice a9 (((f).vals).length) (((f).vals).length))]) #[(.int .i64 ((f).id)), (.string ((f).t)), (.slice a9 (((f).vals).length) (((f).vals).length))] G17 s23 rfl (by kernel_rfl) (by kernel_rfl) (by kernel_rfl) (by kernel_rfl) (by simp [Value.oneCell']) (by simp) (by kernel_rfl)) ?_
  rintro w24 ⟨M24, G24, B24⟩
  obtain ⟨h25, l25, G25, hb25⟩ := B24.freeze G24
  refine WL.nil ?_
  refine EX.then_code ?_
  refine CW.ret ?_
  refine EX.retCell (vs := [(.int .i64 ((f).id)), (.string ((f).t)), (.slice a9 (((f).vals).length) (((f).vals).length))]) rfl (by kernel_rfl) (by kernel_rfl) (G25.imm _ _ ((PH.le_refl _) _ _ hb25)) (agg_at (by kernel_rfl)) ?_
  exact RetM.mk ((l9.trans l10).trans l25) (G25.drop s22.le) (⟨_, _, rfl, s19⟩)
end Go.Proofs
