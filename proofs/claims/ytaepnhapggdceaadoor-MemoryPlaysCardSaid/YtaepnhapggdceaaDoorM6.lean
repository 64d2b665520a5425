import Derived.Test.YtaepnhapggdceaaDoorM5
import Derived.Test.YtaepnhapggdceaaDoorMl
namespace Go.Proofs
open Go Go.Wk
theorem mapT59 : mapT Tryd.prog 59 .string (.int .i64 0) := ⟨9, 3, by kernel_rfl, by kernel_rfl, by kernel_rfl⟩

theorem new_spec {K : Key} {w : World} {h M : PH} (G : Wld K w h M) :
    Calls Tryd.prog 8 #[] w (RetM K h fun h' M' v => ∃ p, v = .pointer (some ⟨p, 0, none⟩) ∧ MemL h' p [] 1 M M') := by
  refine enter (l := []) Tryd.func8 rfl Tryd.ntmps8 (Nat.le_of_ble_eq_true rfl) ?_
  simp only [params]
  refine CW.seq ?_
  refine CW.region ?_
  refine WL.q (.pointer none) (by kernel_rfl) rfl (by kernel_rfl) (by kernel_rfl) ?_
  refine WL.nil ?_
  refine EX.then_code ?_
  refine CW.seq ?_
  refine CW.region ?_
  refine WL.ex (by kernel_rfl) rfl (by kernel_rfl) (q_makeMap (d := .string) (ke := strK) G strK_key strK_inj (fun u_ => by kernel_rfl)) ?_
  rintro _ w1 ⟨b1, M1, es1, ck1, rfl, G1, B1, m1, L1⟩
  refine WL.q (.agg #[(.slice none 0 0), (.map (some b1)), (.int .i64 1)]) (by kernel_rfl) rfl (by kernel_rfl) (by kernel_rfl) ?_
  refine WL.ex (by kernel_rfl) rfl (by kernel_rfl) (q_newB (ob := (.cells #[(.slice none 0 0), (.map (some b1)), (.int .i64 1)] 61 (0, 0))) G1 (fun b_ => .pointer (some ⟨b_, 0, none⟩)) (fun u_ => by kernel_rfl)) ?_
  rintro _ w2 ⟨b2, M2, rfl, G2, B2, L2⟩
  refine WL.q (.pointer (some ⟨b2, 0, none⟩)) (by kernel_rfl) rfl (by kernel_rfl) (by kernel_rfl) ?_
  refine WL.nil ?_
  refine EX.then_code ?_
  refine CW.ret ?_
  refine EX.ret1 (v := (.pointer (some ⟨b2, 0, none⟩))) rfl (by kernel_rfl) ?_
  obtain ⟨N3, s4, s5⟩ : ∃ N_, Blk b2 (.cells #[(.slice none 0 0), (.map (some b1)), (.int .i64 1)] 61 (0, 0)) M N_ ∧ Blk b1 (.map es1 ck1) N_ M2 := Ly.swap (Ly.blk b1 (.map es1 ck1)) (Ly.blk b2 (.cells #[(.slice none 0 0), (.map (some b1)), (.int .i64 1)] 61 (0, 0))) B1 B2
  exact RetM.mk (PH.le_refl _) G2 ⟨_, rfl, _, _, _, _, _, _, _, s4, s5, Own.nil 55 factE _, m1, all_nil⟩

theorem len_spec {K : Key} {w : World} {h M0 M Mt : PH} (G : Wld K w h M) {p : Nat} {row : List FactD} {next : Int} (A : MemL h p row next M0 Mt) (hM : PH.le Mt M) :
    Calls Tryd.prog 12 #[.pointer (some ⟨p, 0, none⟩)] w (Ret K h M fun _ v => v = .int .i64 (row.length : Nat)) := by
  obtain ⟨bm, am, cm, es, clk, Ma, Mb, Ba, Bb, Oo, mi, gd⟩ := A
  refine enter (l := [(.pointer (some ⟨p, 0, none⟩))]) Tryd.func12 rfl Tryd.ntmps12 (Nat.le_of_ble_eq_true rfl) ?_
  simp only [params]
  refine CW.seq ?_
  refine CW.region ?_
  refine WL.q (.int .i64 0) (by kernel_rfl) rfl (by kernel_rfl) (by kernel_rfl) ?_
  refine WL.nil ?_
  refine EX.then_code ?_
  refine CW.seq ?_
  refine CW.region ?_
  refine WL.q (.pointer (some ⟨p, 0, none⟩)) (by kernel_rfl) rfl (by kernel_rfl) (by kernel_rfl) ?_
  refine WL.q (.pointer (some ⟨p, 0, none⟩)) (by kernel_rfl) rfl (by kernel_rfl) (by kernel_rfl) ?_
  refine WL.q (.pointer (some ⟨p, 0, none⟩)) (by kernel_rfl) rfl (by kernel_rfl) (by kernel_rfl) ?_
  refine WL.q (.slice am row.length cm) (by kernel_rfl) rfl (by kernel_rfl) (q_load (off := 0) rfl (by kernel_rfl) (by kernel_rfl) (G.own _ _ (((Bb.le.trans Oo.le).trans hM) _ _ Ba.at)) (by kernel_rfl)) ?_
  refine WL.q (.int .i64 (row.length : Int)) (by kernel_rfl) rfl (by kernel_rfl) (by kernel_rfl) ?_
  refine WL.q (.int .i64 (row.length : Int)) (by kernel_rfl) rfl (by kernel_rfl) (by kernel_rfl) ?_
  refine WL.nil ?_
  refine EX.then_code ?_
  refine CW.ret ?_
  refine EX.ret1 (v := (.int .i64 (row.length : Int))) rfl (by kernel_rfl) ?_
  exact Ret.mk (PH.le_refl _) G rfl

theorem next_spec {K : Key} {w : World} {h M0 M Mt : PH} (G : Wld K w h M) {p : Nat} {row : List FactD} {next : Int} (A : MemL h p row next M0 Mt) (hM : PH.le Mt M) :
    Calls Tryd.prog 17 #[.pointer (some ⟨p, 0, none⟩)] w (Ret K h M fun _ v => v = .int .i64 next) := by
  obtain ⟨bm, am, cm, es, clk, Ma, Mb, Ba, Bb, Oo, mi, gd⟩ := A
  refine enter (l := [(.pointer (some ⟨p, 0, none⟩))]) Tryd.func17 rfl Tryd.ntmps17 (Nat.le_of_ble_eq_true rfl) ?_
  simp only [params]
  refine CW.seq ?_
  refine CW.region ?_
  refine WL.q (.int .i64 0) (by kernel_rfl) rfl (by kernel_rfl) (by kernel_rfl) ?_
  refine WL.nil ?_
  refine EX.then_code ?_
  refine CW.seq ?_
  refine CW.region ?_
  refine WL.q (.pointer (some ⟨p, 0, none⟩)) (by kernel_rfl) rfl (by kernel_rfl) (by kernel_rfl) ?_
  refine WL.q (.pointer (some ⟨p, 0, none⟩)) (by kernel_rfl) rfl (by kernel_rfl) (by kernel_rfl) ?_
  refine WL.q (.pointer (some ⟨p, 2, none⟩)) (by kernel_rfl) rfl (by kernel_rfl) (by kernel_rfl) ?_
  refine WL.q (.int .i64 next) (by kernel_rfl) rfl (by kernel_rfl) (q_load (off := 2) rfl (by kernel_rfl) (by kernel_rfl) (G.own _ _ (((Bb.le.trans Oo.le).trans hM) _ _ Ba.at)) (by kernel_rfl)) ?_
  refine WL.q (.int .i64 next) (by kernel_rfl) rfl (by kernel_rfl) (by kernel_rfl) ?_
  refine WL.nil ?_
  refine EX.then_code ?_
  refine CW.ret ?_
  refine EX.ret1 (v := (.int .i64 next)) rfl (by kernel_rfl) ?_
  exact Ret.mk (PH.le_refl _) G rfl

theorem at_spec {K : Key} {w : World} {h M0 M Mt : PH} (G : Wld K w h M) {p : Nat} {row : List FactD} {next : Int} (A : MemL h p row next M0 Mt) (hM : PH.le Mt M) (R : RowOk row next) (id : Int) :
    Calls Tryd.prog 25 #[.pointer (some ⟨p, 0, none⟩), .int .i64 id] w (Ret K h M fun _ v => ∃ pos found, v = .tuple #[.int .i64 (pos : Nat), .bool found] ∧ pos ≤ row.length ∧ (found = true → pos < row.length ∧ (row.getD pos factE.dflt).id = id) ∧ (found = false → ∀ f ∈ row, f.id ≠ id)) := by
  obtain ⟨bm, am, cm, es, clk, Ma, Mb, Ba, Bb, Oo, mi, gd⟩ := A
  refine enter (l := [(.pointer (some ⟨p, 0, none⟩)), (.int .i64 id)]) Tryd.func25 rfl Tryd.ntmps25 (Nat.le_of_ble_eq_true rfl) ?_
  simp only [params]
  refine CW.seq ?_
  refine CW.region ?_
  refine WL.q (.int .i64 0) (by kernel_rfl) rfl (by kernel_rfl) (by kernel_rfl) ?_
  refine WL.q (.bool false) (by kernel_rfl) rfl (by kernel_rfl) (by kernel_rfl) ?_
  refine WL.nil ?_
  refine EX.then_code ?_
  refine CW.seq ?_
  refine CW.region ?_
  refine WL.q (.pointer (some ⟨p, 0, none⟩)) (by kernel_rfl) rfl (by kernel_rfl) (by kernel_rfl) ?_
  refine WL.q (.pointer (some ⟨p, 0, none⟩)) (by kernel_rfl) rfl (by kernel_rfl) (by kernel_rfl) ?_
  refine WL.q (.pointer (some ⟨p, 0, none⟩)) (by kernel_rfl) rfl (by kernel_rfl) (by kernel_rfl) ?_
  refine WL.q (.slice am row.length cm) (by kernel_rfl) rfl (by kernel_rfl) (q_load (off := 0) rfl (by kernel_rfl) (by kernel_rfl) (G.own _ _ (((Bb.le.trans Oo.le).trans hM) _ _ Ba.at)) (by kernel_rfl)) ?_
  refine WL.q (.int .i64 id) (by kernel_rfl) rfl (by kernel_rfl) (by kernel_rfl) ?_
  refine WL.call (by kernel_rfl) rfl (by kernel_rfl) (by kernel_rfl) (bs_spec G hM Oo (by have := R.len; omega) R.up id) (Ret.elim ?_)
  rintro w6 h6 _ l6 G6 ⟨pos, found, rfl, hq1, hq2, hq3⟩
  refine WL.q (.int .i64 (pos : Int)) (by kernel_rfl) rfl (by kernel_rfl) (by kernel_rfl) ?_
  refine WL.q (.bool found) (by kernel_rfl) rfl (by kernel_rfl) (by kernel_rfl) ?_
  refine WL.q (.int .i64 (pos : Int)) (by kernel_rfl) rfl (by kernel_rfl) (by kernel_rfl) ?_
  refine WL.q (.bool found) (by kernel_rfl) rfl (by kernel_rfl) (by kernel_rfl) ?_
  refine WL.nil ?_
  refine EX.then_code ?_
  refine CW.ret ?_
  refine EX.ret2 (v := (.int .i64 (pos : Int))) (x := (.bool found)) rfl (by kernel_rfl) (by kernel_rfl) ?_
  exact Ret.mk l6 G6 (⟨pos, found, rfl, hq1, hq2, hq3⟩)

theorem find_yes {K : Key} {w : World} {h M0 M Mt : PH} (G : Wld K w h M) {p : Nat} {row : List FactD} {next : Int} (A : MemL h p row next M0 Mt) (hM : PH.le Mt M) (T : Tab Tryd.prog h) {t : ByteArray} {a : Option Addr} {xs : List Val} {c : Nat} (Hx : RS h valE a xs) (hok : FactOk t xs) {f : FactD} (hl : lookR row t xs = some f) :
    Calls Tryd.prog 20 #[.pointer (some ⟨p, 0, none⟩), .string t, .slice a xs.length c] w (Ret K h M fun _ v => v = .tuple #[.int .i64 f.id, .bool true]) := by
  obtain ⟨bm, am, cm, es, clk, Ma, Mb, Ba, Bb, Oo, mi, gd⟩ := A
  have hlk : @List.lookup ByteArray Value instBEqOfDecidableEq (keyF t xs) (ents row) = some (.int .i64 f.id) := by have q_ := ents_look row t xs; rw [hl] at q_; exact q_
  refine enter (l := [(.pointer (some ⟨p, 0, none⟩)), (.string t), (.slice a xs.length c)]) Tryd.func20 rfl Tryd.ntmps20 (Nat.le_of_ble_eq_true rfl) ?_
  simp only [params]
  refine CW.seq ?_
  refine CW.region ?_
  refine WL.q (.int .i64 0) (by kernel_rfl) rfl (by kernel_rfl) (by kernel_rfl) ?_
  refine WL.q (.bool false) (by kernel_rfl) rfl (by kernel_rfl) (by kernel_rfl) ?_
  refine WL.nil ?_
  refine EX.then_code ?_
  refine CW.seq ?_
  refine CW.draw (by kernel_rfl) [(3, fun w_ => PH.all w_ p = some (.cells #[(.slice am row.length cm), .map (some bm), .int .i64 next] 61 (0, 0))), (7, fun w_ => PH.all w_ bm = some (.map es clk))] ?_
  refine DW.take (T := fun _ => True) 0 (.pointer (some ⟨p, 0, none⟩)) rfl (by kernel_rfl) rfl (by kernel_rfl) (.inl fun _ => trivial) (by kernel_rfl) (Deaf.thens (Deaf.body RetM.not_panicked)) (fun w_ _ => (by kernel_rfl)) trivial ?_
  refine DW.take (T := fun _ => True) 1 (.pointer (some ⟨p, 0, none⟩)) rfl (by kernel_rfl) rfl (by kernel_rfl) (.inl fun _ => trivial) (by kernel_rfl) (Deaf.thens (Deaf.body RetM.not_panicked)) (fun w_ _ => (by kernel_rfl)) trivial ?_
  refine DW.take (T := fun _ => True) 2 (.pointer (some ⟨p, 1, none⟩)) rfl (by kernel_rfl) rfl (by kernel_rfl) (.inl fun _ => trivial) (by kernel_rfl) (Deaf.thens (Deaf.body RetM.not_panicked)) (fun w_ _ => (by kernel_rfl)) trivial ?_
  refine DW.take (T := fun w_ => PH.all w_ p = some (.cells #[(.slice am row.length cm), .map (some bm), .int .i64 next] 61 (0, 0))) 3 (.map (some bm)) rfl (by kernel_rfl) rfl (by kernel_rfl) (.inr (by simp only [List.mem_cons, true_or, or_true])) (by kernel_rfl) (Deaf.thens (Deaf.body RetM.not_panicked)) (fun w_ T_ => (q_load (off := 1) rfl (by kernel_rfl) (by kernel_rfl) T_ (by kernel_rfl))) ((G.drew).own _ _ (((Bb.le.trans Oo.le).trans hM) _ _ Ba.at)) ?_
  refine DW.take (T := fun _ => True) 4 (.string t) rfl (by kernel_rfl) rfl (by kernel_rfl) (.inl fun _ => trivial) (by kernel_rfl) (Deaf.thens (Deaf.body RetM.not_panicked)) (fun w_ _ => (by kernel_rfl)) trivial ?_
  refine DW.take (T := fun _ => True) 5 (.slice a xs.length c) rfl (by kernel_rfl) rfl (by kernel_rfl) (.inl fun _ => trivial) (by kernel_rfl) (Deaf.thens (Deaf.body RetM.not_panicked)) (fun w_ _ => (by kernel_rfl)) trivial ?_
  refine DW.only 6 (by kernel_rfl) ?_
  refine DOp.call rfl (by kernel_rfl) rfl (by kernel_rfl) (by kernel_rfl) (key_spec (G.drew) (T.mono (PH.le_refl _)) (xs := xs) (c := c) (Hx.mono (PH.le_refl _)) hok) (Ret.elimD (fun w7 h7 l7 G7 => ⟨.inr (fun _ => (G7.own _ _ (((Bb.le.trans Oo.le).trans hM) _ _ Ba.at))), .inr (fun _ => (G7.own _ _ ((Oo.le.trans hM) _ _ Bb.at))), trivial⟩) ?_)
  rintro w7 h7 _ l7 G7 rfl
  refine DW.take (T := fun w_ => PH.all w_ bm = some (.map es clk)) 7 (.tuple #[(.int .i64 f.id), (.bool true)]) rfl (by kernel_rfl) rfl (by kernel_rfl) (.inr (by simp only [List.mem_cons, true_or, or_true])) (by kernel_rfl) (Deaf.thens (Deaf.body RetM.not_panicked)) (fun w_ T_ => (q_lookup (k := (keyF t xs)) true rfl mapT59 (by kernel_rfl) (by kernel_rfl) T_ mi (by rw [hlk]; rfl))) (G7.own _ _ ((Oo.le.trans hM) _ _ Bb.at)) ?_
  refine DW.take (T := fun _ => True) 8 (.tuple #[(.int .i64 f.id), (.bool true)]) rfl (by kernel_rfl) rfl (by kernel_rfl) (.inl fun _ => trivial) (by kernel_rfl) (Deaf.thens (Deaf.body RetM.not_panicked)) (fun w_ _ => (by kernel_rfl)) trivial ?_
  refine DW.take (T := fun _ => True) 9 (.int .i64 f.id) rfl (by kernel_rfl) rfl (by kernel_rfl) (.inl fun _ => trivial) (by kernel_rfl) (Deaf.thens (Deaf.body RetM.not_panicked)) (fun w_ _ => (by kernel_rfl)) trivial ?_
  refine DW.take (T := fun _ => True) 10 (.bool true) rfl (by kernel_rfl) rfl (by kernel_rfl) (.inl fun _ => trivial) (by kernel_rfl) (Deaf.thens (Deaf.body RetM.not_panicked)) (fun w_ _ => (by kernel_rfl)) trivial ?_
  refine DW.take (T := fun _ => True) 11 (.int .i64 f.id) rfl (by kernel_rfl) rfl (by kernel_rfl) (.inl fun _ => trivial) (by kernel_rfl) (Deaf.thens (Deaf.body RetM.not_panicked)) (fun w_ _ => (by kernel_rfl)) trivial ?_
  refine DW.take (T := fun _ => True) 12 (.bool true) rfl (by kernel_rfl) rfl (by kernel_rfl) (.inl fun _ => trivial) (by kernel_rfl) (Deaf.thens (Deaf.body RetM.not_panicked)) (fun w_ _ => (by kernel_rfl)) trivial ?_
  refine DW.done (by kernel_rfl) ?_
  refine EX.then_code ?_
  refine CW.seq ?_
  refine CW.region ?_
  refine WL.q (.int .i64 f.id) (by kernel_rfl) rfl (by kernel_rfl) (by kernel_rfl) ?_
  refine WL.q (.bool true) (by kernel_rfl) rfl (by kernel_rfl) (by kernel_rfl) ?_
  refine WL.q (.int .i64 f.id) (by kernel_rfl) rfl (by kernel_rfl) (by kernel_rfl) ?_
  refine WL.q (.bool true) (by kernel_rfl) rfl (by kernel_rfl) (by kernel_rfl) ?_
  refine WL.nil ?_
  refine EX.then_code ?_
  refine CW.ret ?_
  refine EX.ret2 (v := (.int .i64 f.id)) (x := (.bool true)) rfl (by kernel_rfl) (by kernel_rfl) ?_
  exact Ret.mk l7 G7 rfl

theorem find_no {K : Key} {w : World} {h M0 M Mt : PH} (G : Wld K w h M) {p : Nat} {row : List FactD} {next : Int} (A : MemL h p row next M0 Mt) (hM : PH.le Mt M) (T : Tab Tryd.prog h) {t : ByteArray} {a : Option Addr} {xs : List Val} {c : Nat} (Hx : RS h valE a xs) (hok : FactOk t xs) (hl : lookR row t xs = none) :
    Calls Tryd.prog 20 #[.pointer (some ⟨p, 0, none⟩), .string t, .slice a xs.length c] w (Ret K h M fun _ v => v = .tuple #[.int .i64 0, .bool false]) := by
  obtain ⟨bm, am, cm, es, clk, Ma, Mb, Ba, Bb, Oo, mi, gd⟩ := A
  have hlk : @List.lookup ByteArray Value instBEqOfDecidableEq (keyF t xs) (ents row) = none := by have q_ := ents_look row t xs; rw [hl] at q_; exact q_
  refine enter (l := [(.pointer (some ⟨p, 0, none⟩)), (.string t), (.slice a xs.length c)]) Tryd.func20 rfl Tryd.ntmps20 (Nat.le_of_ble_eq_true rfl) ?_
  simp only [params]
  refine CW.seq ?_
  refine CW.region ?_
  refine WL.q (.int .i64 0) (by kernel_rfl) rfl (by kernel_rfl) (by kernel_rfl) ?_
  refine WL.q (.bool false) (by kernel_rfl) rfl (by kernel_rfl) (by kernel_rfl) ?_
  refine WL.nil ?_
  refine EX.then_code ?_
  refine CW.seq ?_
  refine CW.draw (by kernel_rfl) [(3, fun w_ => PH.all w_ p = some (.cells #[(.slice am row.length cm), .map (some bm), .int .i64 next] 61 (0, 0))), (7, fun w_ => PH.all w_ bm = some (.map es clk))] ?_
  refine DW.take (T := fun _ => True) 0 (.pointer (some ⟨p, 0, none⟩)) rfl (by kernel_rfl) rfl (by kernel_rfl) (.inl fun _ => trivial) (by kernel_rfl) (Deaf.thens (Deaf.body RetM.not_panicked)) (fun w_ _ => (by kernel_rfl)) trivial ?_
  refine DW.take (T := fun _ => True) 1 (.pointer (some ⟨p, 0, none⟩)) rfl (by kernel_rfl) rfl (by kernel_rfl) (.inl fun _ => trivial) (by kernel_rfl) (Deaf.thens (Deaf.body RetM.not_panicked)) (fun w_ _ => (by kernel_rfl)) trivial ?_
  refine DW.take (T := fun _ => True) 2 (.pointer (some ⟨p, 1, none⟩)) rfl (by kernel_rfl) rfl (by kernel_rfl) (.inl fun _ => trivial) (by kernel_rfl) (Deaf.thens (Deaf.body RetM.not_panicked)) (fun w_ _ => (by kernel_rfl)) trivial ?_
  refine DW.take (T := fun w_ => PH.all w_ p = some (.cells #[(.slice am row.length cm), .map (some bm), .int .i64 next] 61 (0, 0))) 3 (.map (some bm)) rfl (by kernel_rfl) rfl (by kernel_rfl) (.inr (by simp only [List.mem_cons, true_or, or_true])) (by kernel_rfl) (Deaf.thens (Deaf.body RetM.not_panicked)) (fun w_ T_ => (q_load (off := 1) rfl (by kernel_rfl) (by kernel_rfl) T_ (by kernel_rfl))) ((G.drew).own _ _ (((Bb.le.trans Oo.le).trans hM) _ _ Ba.at)) ?_
  refine DW.take (T := fun _ => True) 4 (.string t) rfl (by kernel_rfl) rfl (by kernel_rfl) (.inl fun _ => trivial) (by kernel_rfl) (Deaf.thens (Deaf.body RetM.not_panicked)) (fun w_ _ => (by kernel_rfl)) trivial ?_
  refine DW.take (T := fun _ => True) 5 (.slice a xs.length c) rfl (by kernel_rfl) rfl (by kernel_rfl) (.inl fun _ => trivial) (by kernel_rfl) (Deaf.thens (Deaf.body RetM.not_panicked)) (fun w_ _ => (by kernel_rfl)) trivial ?_
  refine DW.only 6 (by kernel_rfl) ?_
  refine DOp.call rfl (by kernel_rfl) rfl (by kernel_rfl) (by kernel_rfl) (key_spec (G.drew) (T.mono (PH.le_refl _)) (xs := xs) (c := c) (Hx.mono (PH.le_refl _)) hok) (Ret.elimD (fun w8 h8 l8 G8 => ⟨.inr (fun _ => (G8.own _ _ (((Bb.le.trans Oo.le).trans hM) _ _ Ba.at))), .inr (fun _ => (G8.own _ _ ((Oo.le.trans hM) _ _ Bb.at))), trivial⟩) ?_)
  rintro w8 h8 _ l8 G8 rfl
  refine DW.take (T := fun w_ => PH.all w_ bm = some (.map es clk)) 7 (.tuple #[(.int .i64 0), (.bool false)]) rfl (by kernel_rfl) rfl (by kernel_rfl) (.inr (by simp only [List.mem_cons, true_or, or_true])) (by kernel_rfl) (Deaf.thens (Deaf.body RetM.not_panicked)) (fun w_ T_ => (q_lookup (k := (keyF t xs)) true rfl mapT59 (by kernel_rfl) (by kernel_rfl) T_ mi (by rw [hlk]; rfl))) (G8.own _ _ ((Oo.le.trans hM) _ _ Bb.at)) ?_
  refine DW.take (T := fun _ => True) 8 (.tuple #[(.int .i64 0), (.bool false)]) rfl (by kernel_rfl) rfl (by kernel_rfl) (.inl fun _ => trivial) (by kernel_rfl) (Deaf.thens (Deaf.body RetM.not_panicked)) (fun w_ _ => (by kernel_rfl)) trivial ?_
  refine DW.take (T := fun _ => True) 9 (.int .i64 0) rfl (by kernel_rfl) rfl (by kernel_rfl) (.inl fun _ => trivial) (by kernel_rfl) (Deaf.thens (Deaf.body RetM.not_panicked)) (fun w_ _ => (by kernel_rfl)) trivial ?_
  refine DW.take (T := fun _ => True) 10 (.bool false) rfl (by kernel_rfl) rfl (by kernel_rfl) (.inl fun _ => trivial) (by kernel_rfl) (Deaf.thens (Deaf.body RetM.not_panicked)) (fun w_ _ => (by kernel_rfl)) trivial ?_
  refine DW.take (T := fun _ => True) 11 (.int .i64 0) rfl (by kernel_rfl) rfl (by kernel_rfl) (.inl fun _ => trivial) (by kernel_rfl) (Deaf.thens (Deaf.body RetM.not_panicked)) (fun w_ _ => (by kernel_rfl)) trivial ?_
  refine DW.take (T := fun _ => True) 12 (.bool false) rfl (by kernel_rfl) rfl (by kernel_rfl) (.inl fun _ => trivial) (by kernel_rfl) (Deaf.thens (Deaf.body RetM.not_panicked)) (fun w_ _ => (by kernel_rfl)) trivial ?_
  refine DW.done (by kernel_rfl) ?_
  refine EX.then_code ?_
  refine CW.seq ?_
  refine CW.region ?_
  refine WL.q (.int .i64 0) (by kernel_rfl) rfl (by kernel_rfl) (by kernel_rfl) ?_
  refine WL.q (.bool false) (by kernel_rfl) rfl (by kernel_rfl) (by kernel_rfl) ?_
  refine WL.q (.int .i64 0) (by kernel_rfl) rfl (by kernel_rfl) (by kernel_rfl) ?_
  refine WL.q (.bool false) (by kernel_rfl) rfl (by kernel_rfl) (by kernel_rfl) ?_
  refine WL.nil ?_
  refine EX.then_code ?_
  refine CW.ret ?_
  refine EX.ret2 (v := (.int .i64 0)) (x := (.bool false)) rfl (by kernel_rfl) (by kernel_rfl) ?_
  exact Ret.mk l8 G8 rfl

theorem assert_yes {K : Key} {w : World} {h M0 M : PH} (G : Wld K w h M) {p : Nat} {row : List FactD} {next : Int} (A : MemL h p row next M0 M) (T : Tab Tryd.prog h) {t : ByteArray} {a : Option Addr} {xs : List Val} {c : Nat} (Hx : RS h valE a xs) (hok : FactOk t xs) {f : FactD} (hl : lookR row t xs = some f) :
    Calls Tryd.prog 9 #[.pointer (some ⟨p, 0, none⟩), .string t, .slice a xs.length c] w (Ret K h M fun _ v => v = .tuple #[.int .i64 f.id, .bool false, .int .i64 0]) := by
  obtain ⟨bm, am, cm, es, clk, Ma, Mb, Ba, Bb, Oo, mi, gd⟩ := A
  have hlk : @List.lookup ByteArray Value instBEqOfDecidableEq (keyF t xs) (ents row) = some (.int .i64 f.id) := by have q_ := ents_look row t xs; rw [hl] at q_; exact q_
  refine enter (l := [(.pointer (some ⟨p, 0, none⟩)), (.string t), (.slice a xs.length c)]) Tryd.func9 rfl Tryd.ntmps9 (Nat.le_of_ble_eq_true rfl) ?_
  simp only [params]
  refine CW.seq ?_
  refine CW.region ?_
  refine WL.q (.int .i64 0) (by kernel_rfl) rfl (by kernel_rfl) (by kernel_rfl) ?_
  refine WL.q (.bool false) (by kernel_rfl) rfl (by kernel_rfl) (by kernel_rfl) ?_
  refine WL.q (.int .i64 0) (by kernel_rfl) rfl (by kernel_rfl) (by kernel_rfl) ?_
  refine WL.nil ?_
  refine EX.then_code ?_
  refine CW.seq ?_
  refine CW.region ?_
  refine WL.q (.string t) (by kernel_rfl) rfl (by kernel_rfl) (by kernel_rfl) ?_
  refine WL.q (.slice a xs.length c) (by kernel_rfl) rfl (by kernel_rfl) (by kernel_rfl) ?_
  refine WL.call (by kernel_rfl) rfl (by kernel_rfl) (by kernel_rfl) (key_spec G (T.mono (PH.le_refl _)) (xs := xs) (c := c) (Hx.mono (PH.le_refl _)) hok) (Ret.elim ?_)
  rintro w9 h9 _ l9 G9 rfl
  refine WL.q (.string (keyF t xs)) (by kernel_rfl) rfl (by kernel_rfl) (by kernel_rfl) ?_
  refine WL.nil ?_
  refine EX.then_code ?_
  refine CW.seq ?_
  refine CW.seq ?_
  refine CW.region ?_
  refine WL.q (.pointer (some ⟨p, 0, none⟩)) (by kernel_rfl) rfl (by kernel_rfl) (by kernel_rfl) ?_
  refine WL.q (.pointer (some ⟨p, 0, none⟩)) (by kernel_rfl) rfl (by kernel_rfl) (by kernel_rfl) ?_
  refine WL.q (.pointer (some ⟨p, 1, none⟩)) (by kernel_rfl) rfl (by kernel_rfl) (by kernel_rfl) ?_
  refine WL.q (.map (some bm)) (by kernel_rfl) rfl (by kernel_rfl) (q_load (off := 1) rfl (by kernel_rfl) (by kernel_rfl) (G9.own _ _ ((Bb.le.trans Oo.le) _ _ Ba.at)) (by kernel_rfl)) ?_
  refine WL.q (.string (keyF t xs)) (by kernel_rfl) rfl (by kernel_rfl) (by kernel_rfl) ?_
  refine WL.q (.tuple #[(.int .i64 f.id), (.bool true)]) (by kernel_rfl) rfl (by kernel_rfl) (q_lookup (k := (keyF t xs)) true rfl mapT59 (by kernel_rfl) (by kernel_rfl) (G9.own _ _ (Oo.le _ _ Bb.at)) mi (by rw [hlk]; rfl)) ?_
  refine WL.q (.tuple #[(.int .i64 f.id), (.bool true)]) (by kernel_rfl) rfl (by kernel_rfl) (by kernel_rfl) ?_
  refine WL.q (.int .i64 f.id) (by kernel_rfl) rfl (by kernel_rfl) (by kernel_rfl) ?_
  refine WL.q (.bool true) (by kernel_rfl) rfl (by kernel_rfl) (by kernel_rfl) ?_
  refine WL.q (.int .i64 f.id) (by kernel_rfl) rfl (by kernel_rfl) (by kernel_rfl) ?_
  refine WL.q (.bool true) (by kernel_rfl) rfl (by kernel_rfl) (by kernel_rfl) ?_
  refine WL.nil ?_
  refine EX.then_code ?_
  refine CW.seq ?_
  refine CW.region ?_
  refine WL.q (.bool true) (by kernel_rfl) rfl (by kernel_rfl) (by kernel_rfl) ?_
  refine WL.nil ?_
  refine EX.then_code ?_
  refine CW.cond_t (by kernel_rfl) (by kernel_rfl) ?_
  refine CW.seq ?_
  refine CW.region ?_
  refine WL.q (.int .i64 f.id) (by kernel_rfl) rfl (by kernel_rfl) (by kernel_rfl) ?_
  refine WL.q (.int .i64 f.id) (by kernel_rfl) rfl (by kernel_rfl) (by kernel_rfl) ?_
  refine WL.q (.bool false) (by kernel_rfl) rfl (by kernel_rfl) (by kernel_rfl) ?_
  refine WL.q (.int .i64 0) (by kernel_rfl) rfl (by kernel_rfl) (by kernel_rfl) ?_
  refine WL.nil ?_
  refine EX.then_code ?_
  refine CW.ret ?_
  refine EX.ret_then ?_
  refine EX.ret3 (v := (.int .i64 f.id)) (x := (.bool false)) (y := (.int .i64 0)) rfl (by kernel_rfl) (by kernel_rfl) (by kernel_rfl) ?_
  exact Ret.mk l9 G9 rfl

theorem assert_full {K : Key} {w : World} {h M0 M : PH} (G : Wld K w h M) {p : Nat} {row : List FactD} {next : Int} (A : MemL h p row next M0 M) (T : Tab Tryd.prog h) {t : ByteArray} {a : Option Addr} {xs : List Val} {c : Nat} (Hx : RS h valE a xs) (hok : FactOk t xs) (hl : lookR row t xs = none) (hf : 1000 ≤ row.length) :
    Calls Tryd.prog 9 #[.pointer (some ⟨p, 0, none⟩), .string t, .slice a xs.length c] w (Ret K h M fun _ v => v = .tuple #[.int .i64 0, .bool false, .int .i64 10]) := by
  obtain ⟨bm, am, cm, es, clk, Ma, Mb, Ba, Bb, Oo, mi, gd⟩ := A
  have hlk : @List.lookup ByteArray Value instBEqOfDecidableEq (keyF t xs) (ents row) = none := by have q_ := ents_look row t xs; rw [hl] at q_; exact q_
  refine enter (l := [(.pointer (some ⟨p, 0, none⟩)), (.string t), (.slice a xs.length c)]) Tryd.func9 rfl Tryd.ntmps9 (Nat.le_of_ble_eq_true rfl) ?_
  simp only [params]
  refine CW.seq ?_
  refine CW.region ?_
  refine WL.q (.int .i64 0) (by kernel_rfl) rfl (by kernel_rfl) (by kernel_rfl) ?_
  refine WL.q (.bool false) (by kernel_rfl) rfl (by kernel_rfl) (by kernel_rfl) ?_
  refine WL.q (.int .i64 0) (by kernel_rfl) rfl (by kernel_rfl) (by kernel_rfl) ?_
  refine WL.nil ?_
  refine EX.then_code ?_
  refine CW.seq ?_
  refine CW.region ?_
  refine WL.q (.string t) (by kernel_rfl) rfl (by kernel_rfl) (by kernel_rfl) ?_
  refine WL.q (.slice a xs.length c) (by kernel_rfl) rfl (by kernel_rfl) (by kernel_rfl) ?_
  refine WL.call (by kernel_rfl) rfl (by kernel_rfl) (by kernel_rfl) (key_spec G (T.mono (PH.le_refl _)) (xs := xs) (c := c) (Hx.mono (PH.le_refl _)) hok) (Ret.elim ?_)
  rintro w10 h10 _ l10 G10 rfl
  refine WL.q (.string (keyF t xs)) (by kernel_rfl) rfl (by kernel_rfl) (by kernel_rfl) ?_
  refine WL.nil ?_
  refine EX.then_code ?_
  refine CW.seq ?_
  refine CW.seq ?_
  refine CW.region ?_
  refine WL.q (.pointer (some ⟨p, 0, none⟩)) (by kernel_rfl) rfl (by kernel_rfl) (by kernel_rfl) ?_
  refine WL.q (.pointer (some ⟨p, 0, none⟩)) (by kernel_rfl) rfl (by kernel_rfl) (by kernel_rfl) ?_
  refine WL.q (.pointer (some ⟨p, 1, none⟩)) (by kernel_rfl) rfl (by kernel_rfl) (by kernel_rfl) ?_
  refine WL.q (.map (some bm)) (by kernel_rfl) rfl (by kernel_rfl) (q_load (off := 1) rfl (by kernel_rfl) (by kernel_rfl) (G10.own _ _ ((Bb.le.trans Oo.le) _ _ Ba.at)) (by kernel_rfl)) ?_
  refine WL.q (.string (keyF t xs)) (by kernel_rfl) rfl (by kernel_rfl) (by kernel_rfl) ?_
  refine WL.q (.tuple #[(.int .i64 0), (.bool false)]) (by kernel_rfl) rfl (by kernel_rfl) (q_lookup (k := (keyF t xs)) true rfl mapT59 (by kernel_rfl) (by kernel_rfl) (G10.own _ _ (Oo.le _ _ Bb.at)) mi (by rw [hlk]; rfl)) ?_
  refine WL.q (.tuple #[(.int .i64 0), (.bool false)]) (by kernel_rfl) rfl (by kernel_rfl) (by kernel_rfl) ?_
  refine WL.q (.int .i64 0) (by kernel_rfl) rfl (by kernel_rfl) (by kernel_rfl) ?_
  refine WL.q (.bool false) (by kernel_rfl) rfl (by kernel_rfl) (by kernel_rfl) ?_
  refine WL.q (.int .i64 0) (by kernel_rfl) rfl (by kernel_rfl) (by kernel_rfl) ?_
  refine WL.q (.bool false) (by kernel_rfl) rfl (by kernel_rfl) (by kernel_rfl) ?_
  refine WL.nil ?_
  refine EX.then_code ?_
  refine CW.seq ?_
  refine CW.region ?_
  refine WL.q (.bool false) (by kernel_rfl) rfl (by kernel_rfl) (by kernel_rfl) ?_
  refine WL.nil ?_
  refine EX.then_code ?_
  refine CW.cond_f (by kernel_rfl) (by kernel_rfl) ?_
  refine CW.skip ?_
  refine EX.then_code ?_
  refine CW.seq ?_
  refine CW.seq ?_
  refine CW.region ?_
  refine WL.q (.pointer (some ⟨p, 0, none⟩)) (by kernel_rfl) rfl (by kernel_rfl) (by kernel_rfl) ?_
  refine WL.q (.pointer (some ⟨p, 0, none⟩)) (by kernel_rfl) rfl (by kernel_rfl) (by kernel_rfl) ?_
  refine WL.q (.pointer (some ⟨p, 0, none⟩)) (by kernel_rfl) rfl (by kernel_rfl) (by kernel_rfl) ?_
  refine WL.q (.slice am row.length cm) (by kernel_rfl) rfl (by kernel_rfl) (q_load (off := 0) rfl (by kernel_rfl) (by kernel_rfl) (G10.own _ _ ((Bb.le.trans Oo.le) _ _ Ba.at)) (by kernel_rfl)) ?_
  refine WL.q (.int .i64 (row.length : Int)) (by kernel_rfl) rfl (by kernel_rfl) (by kernel_rfl) ?_
  refine WL.q (.bool (decide ((row.length : Int) ≥ 1000))) (by kernel_rfl) rfl (by kernel_rfl) (by kernel_rfl) ?_
  refine WL.nil ?_
  refine EX.then_code ?_
  refine CW.cond (decide ((row.length : Int) ≥ 1000)) (by kernel_rfl) (by kernel_rfl) (fun c11 => ?_) (fun c11 => ?_)
  ·
    skip
    have d12 := of_decide_eq_true c11
    refine CW.seq ?_
    refine CW.region ?_
    refine WL.q (.int .i64 0) (by kernel_rfl) rfl (by kernel_rfl) (by kernel_rfl) ?_
    refine WL.q (.bool false) (by kernel_rfl) rfl (by kernel_rfl) (by kernel_rfl) ?_
    refine WL.q (.int .i64 10) (by kernel_rfl) rfl (by kernel_rfl) (by kernel_rfl) ?_
    refine WL.nil ?_
    refine EX.then_code ?_
    refine CW.ret ?_
    refine EX.ret_then ?_
    refine EX.ret3 (v := (.int .i64 0)) (x := (.bool false)) (y := (.int .i64 10)) rfl (by kernel_rfl) (by kernel_rfl) (by kernel_rfl) ?_
    exact Ret.mk l10 G10 rfl
  ·
    skip
    have d13 := of_decide_eq_false c11
    refine CW.skip ?_
    refine EX.then_code ?_
    refine CW.seq ?_
    refine CW.region ?_
    refine WL.q (.pointer (some ⟨p, 0, none⟩)) (by kernel_rfl) rfl (by kernel_rfl) (by kernel_rfl) ?_
    refine WL.q (.pointer (some ⟨p, 0, none⟩)) (by kernel_rfl) rfl (by kernel_rfl) (by kernel_rfl) ?_
    refine WL.q (.pointer (some ⟨p, 2, none⟩)) (by kernel_rfl) rfl (by kernel_rfl) (by kernel_rfl) ?_
    refine WL.q (.int .i64 next) (by kernel_rfl) rfl (by kernel_rfl) (q_load (off := 2) rfl (by kernel_rfl) (by kernel_rfl) (G10.own _ _ ((Bb.le.trans Oo.le) _ _ Ba.at)) (by kernel_rfl)) ?_
    refine WL.q (.string t) (by kernel_rfl) rfl (by kernel_rfl) (by kernel_rfl) ?_
    refine WL.q (.slice a xs.length c) (by kernel_rfl) rfl (by kernel_rfl) (by kernel_rfl) ?_
    refine WL.q (.agg #[(.int .i64 next), (.string t), (.slice a xs.length c)]) (by kernel_rfl) rfl (by kernel_rfl) (by kernel_rfl) ?_
    refine WL.call (by kernel_rfl) rfl (by kernel_rfl) (by kernel_rfl) (apart_spec (f := (FactD.mk next t a xs c)) G10 (show factG h10 (FactD.mk next t a xs c) from (Hx.mono l10)) (by have := hok.2.1; show xs.length ≤ 1000000; omega)) (RetM.elim ?_)
    rintro w14 h14 M14 _ l14 G14 ⟨a14, k14, rfl, o14⟩
    obtain ⟨h15, l15, G15, r15⟩ := o14.freeze G14
    refine WL.ex (by kernel_rfl) rfl (by kernel_rfl) (q_newB (ob := (.cells #[(.int .i64 0), (.string (ByteArray.mk #[])), (.slice none 0 0)] 55 (0, 0))) G15 (fun b_ => .pointer (some ⟨b_, 0, none⟩)) (fun u_ => by kernel_rfl)) ?_
    rintro _ w16 ⟨b16, M16, rfl, G16, B16, L16⟩
    refine WL.exu (by kernel_rfl) rfl (by kernel_rfl) (q_storeB (off := 0) (et := 55) (v := (.agg #[(.int .i64 next), (.string t), (.slice a14 xs.length xs.length)])) (vs := [(.int .i64 next), (.string t), (.slice a14 xs.length xs.length)]) #[(.int .i64 next), (.string t), (.slice a14 xs.length xs.length)] G16 B16 rfl (by kernel_rfl) (by kernel_rfl) (by kernel_rfl) (by kernel_rfl) (by simp [Value.oneCell']) (by simp) (by kernel_rfl)) ?_
    rintro w17 ⟨M17, G17, B17⟩
    obtain ⟨h18, l18, G18, hb18⟩ := B17.freeze G17
    refine WL.nil ?_
    refine EX.then_code ?_
    refine CW.seq ?_
    refine CW.draw (by kernel_rfl) [(4, fun w_ => PH.all w_ p = some (.cells #[(.slice am row.length cm), .map (some bm), .int .i64 next] 61 (0, 0))), (5, fun w_ => PH.all w_ b16 = some (.cells #[(.int .i64 next), (.string t), (.slice a14 xs.length xs.length)] 55 (0, 0)))] ?_
    refine DW.take (T := fun _ => True) 0 (.pointer (some ⟨p, 0, none⟩)) rfl (by kernel_rfl) rfl (by kernel_rfl) (.inl fun _ => trivial) (by kernel_rfl) (Deaf.thens (Deaf.body RetM.not_panicked)) (fun w_ _ => (by kernel_rfl)) trivial ?_
    refine DW.take (T := fun _ => True) 1 (.pointer (some ⟨p, 0, none⟩)) rfl (by kernel_rfl) rfl (by kernel_rfl) (.inl fun _ => trivial) (by kernel_rfl) (Deaf.thens (Deaf.body RetM.not_panicked)) (fun w_ _ => (by kernel_rfl)) trivial ?_
    refine DW.take (T := fun _ => True) 2 (.pointer (some ⟨p, 0, none⟩)) rfl (by kernel_rfl) rfl (by kernel_rfl) (.inl fun _ => trivial) (by kernel_rfl) (Deaf.thens (Deaf.body RetM.not_panicked)) (fun w_ _ => (by kernel_rfl)) trivial ?_
    refine DW.take (T := fun _ => True) 3 (.pointer (some ⟨p, 0, none⟩)) rfl (by kernel_rfl) rfl (by kernel_rfl) (.inl fun _ => trivial) (by kernel_rfl) (Deaf.thens (Deaf.body RetM.not_panicked)) (fun w_ _ => (by kernel_rfl)) trivial ?_
    refine DW.take (T := fun w_ => PH.all w_ p = some (.cells #[(.slice am row.length cm), .map (some bm), .int .i64 next] 61 (0, 0))) 4 (.slice am row.length cm) rfl (by kernel_rfl) rfl (by kernel_rfl) (.inr (by simp only [List.mem_cons, true_or, or_true])) (by kernel_rfl) (Deaf.thens (Deaf.body RetM.not_panicked)) (fun w_ T_ => (q_load (off := 0) rfl (by kernel_rfl) (by kernel_rfl) T_ (by kernel_rfl))) ((G18.drew).own _ _ ((Bb.le.trans Oo.le) _ _ Ba.at)) ?_
    refine DW.take (T := fun w_ => PH.all w_ b16 = some (.cells #[(.int .i64 next), (.string t), (.slice a14 xs.length xs.length)] 55 (0, 0))) 5 (.agg #[(.int .i64 next), (.string t), (.slice a14 xs.length xs.length)]) rfl (by kernel_rfl) rfl (by kernel_rfl) (.inr (by simp only [List.mem_cons, true_or, or_true])) (by kernel_rfl) (Deaf.thens (Deaf.body RetM.not_panicked)) (fun w_ T_ => (q_loadAgg (off := 0) (vs := [(.int .i64 next), (.string t), (.slice a14 xs.length xs.length)]) rfl (by kernel_rfl) (by kernel_rfl) T_ (agg_at (by kernel_rfl)))) ((G18.drew).imm _ _ ((PH.le_refl _) _ _ hb18)) ?_
    refine DW.only 6 (by kernel_rfl) ?_
    refine DOp.ex rfl (by kernel_rfl) rfl (by kernel_rfl) (q_newF (ob := (.cells #[(.int .i64 next), (.string t), (.slice a14 xs.length xs.length)] 55 (0, 0))) (G18.drew) (fun b_ => .slice (some ⟨b_, 0, none⟩) 1 1) (fun u_ => by kernel_rfl)) (fun v_ w19 p_ => by obtain ⟨b19, h19, rfl, l19, G19, hb19, L19⟩ := p_; exact ⟨.inr (fun _ => (G19.own _ _ ((Bb.le.trans Oo.le) _ _ Ba.at))), .inl (by kernel_rfl), trivial⟩) ?_
    rintro _ w19 ⟨b19, h19, rfl, l19, G19, hb19, L19⟩
    have r20 : RS h19 factE (some ⟨b19, 0, none⟩) [(FactD.mk next t a14 xs xs.length)] := RS.blk hb19 (by kernel_rfl)
    have g20 : ∀ e_ ∈ [(FactD.mk next t a14 xs xs.length)], factG h19 e_ := (all_one (show factG h19 (FactD.mk next t a14 xs xs.length) from (r15.mono (l18.trans l19))))
    refine DW.only 7 (by kernel_rfl) ?_
    refine DOp.ex rfl (by kernel_rfl) rfl (by kernel_rfl) (q_app (e := 55) (bytes := 48) (cap := cm) (c2 := 1) (M0 := Mb) (xs := row) (ys := ([(FactD.mk next t a14 xs xs.length)])) G19 Oo (r20.mono ((PH.le_refl _).trans G19.imm)) rfl (by kernel_rfl) (by kernel_rfl) (by kernel_rfl) (by first | (simp only [maxLen, List.length_append, List.length_cons, List.length_nil]; omega) | (simp only [maxLen]; omega)) (by first | omega | (simp only [List.length_append, List.length_cons, List.length_nil]; omega))) (fun v_ w21 p_ => by obtain ⟨a21, k21, M21, rfl, G21, o21, z21⟩ := p_; exact ⟨.inl (by kernel_rfl), .inr (fun _ => (G21.imm _ _ (l19 _ _ hb18))), trivial⟩) ?_
    rintro _ w21 ⟨a21, k21, M21, rfl, G21, o21, z21⟩
    have g21 : ∀ e_ ∈ (row ++ ([(FactD.mk next t a14 xs xs.length)])), factG h19 e_ := all_app (all_up @factG.mono ((((l10.trans l14).trans l15).trans l18).trans l19) gd) g20
    refine DW.take (T := fun _ => True) 8 (.pointer (some ⟨p, 0, none⟩)) rfl (by kernel_rfl) rfl (by kernel_rfl) (.inl fun _ => trivial) (by kernel_rfl) (Deaf.thens (Deaf.body RetM.not_panicked)) (fun w_ _ => (by kernel_rfl)) trivial ?_
    refine DW.take (T := fun _ => True) 9 (.pointer (some ⟨p, 0, none⟩)) rfl (by kernel_rfl) rfl (by kernel_rfl) (.inl fun _ => trivial) (by kernel_rfl) (Deaf.thens (Deaf.body RetM.not_panicked)) (fun w_ _ => (by kernel_rfl)) trivial ?_
    refine DW.only 10 (by kernel_rfl) ?_
    obtain ⟨N22, s23, s24⟩ : ∃ N_, Blk bm (.map es clk) M0 N_ ∧ Blk p (.cells #[(.slice am row.length cm), .map (some bm), .int .i64 next] 61 (0, 0)) N_ Mb := Ly.swap (Ly.blk p (.cells #[(.slice am row.length cm), .map (some bm), .int .i64 next] 61 (0, 0))) (Ly.blk bm (.map es clk)) Ba Bb
    obtain ⟨N25, s26, s27⟩ : ∃ N_, Own 55 factE N22 N_ a21 k21 (row ++ ([(FactD.mk next t a14 xs xs.length)])) ∧ Blk p (.cells #[(.slice am row.length cm), .map (some bm), .int .i64 next] 61 (0, 0)) N_ M21 := Ly.swap (Ly.blk p (.cells #[(.slice am row.length cm), .map (some bm), .int .i64 next] 61 (0, 0))) (Ly.own (E := factE) 55 a21 k21 (row ++ ([(FactD.mk next t a14 xs xs.length)]))) s24 o21
    refine DOp.exu rfl (by kernel_rfl) rfl (by kernel_rfl) (q_storeB (off := 0) (et := 61) (v := (.slice a21 ((row ++ ([(FactD.mk next t a14 xs xs.length)])).length) k21)) (vs := [(.slice a21 ((row ++ ([(FactD.mk next t a14 xs xs.length)])).length) k21)]) #[(.slice a21 ((row ++ ([(FactD.mk next t a14 xs xs.length)])).length) k21), (.map (some bm)), (.int .i64 next)] G21 s27 rfl (by kernel_rfl) (by kernel_rfl) (by kernel_rfl) (by kernel_rfl) (by simp [Value.oneCell']) (by simp) (by kernel_rfl)) (fun w28 p_ => by obtain ⟨M28, G28, B28⟩ := p_; exact ⟨.inl (by kernel_rfl), .inl (by kernel_rfl), trivial⟩) ?_
    rintro w28 ⟨M28, G28, B28⟩
    refine DW.done (by kernel_rfl) ?_
    refine EX.then_code ?_
    refine CW.seq ?_
    refine CW.draw (by kernel_rfl) [(3, fun w_ => PH.all w_ p = some (.cells #[(.slice a21 ((row ++ ([(FactD.mk next t a14 xs xs.length)])).length) k21), (.map (some bm)), (.int .i64 next)] 61 (0, 0))), (6, fun w_ => PH.all w_ b16 = some (.cells #[(.int .i64 next), (.string t), (.slice a14 xs.length xs.length)] 55 (0, 0)))] ?_
    refine DW.take (T := fun _ => True) 0 (.pointer (some ⟨p, 0, none⟩)) rfl (by kernel_rfl) rfl (by kernel_rfl) (.inl fun _ => trivial) (by kernel_rfl) (Deaf.thens (Deaf.body RetM.not_panicked)) (fun w_ _ => (by kernel_rfl)) trivial ?_
    refine DW.take (T := fun _ => True) 1 (.pointer (some ⟨p, 0, none⟩)) rfl (by kernel_rfl) rfl (by kernel_rfl) (.inl fun _ => trivial) (by kernel_rfl) (Deaf.thens (Deaf.body RetM.not_panicked)) (fun w_ _ => (by kernel_rfl)) trivial ?_
    refine DW.take (T := fun _ => True) 2 (.pointer (some ⟨p, 1, none⟩)) rfl (by kernel_rfl) rfl (by kernel_rfl) (.inl fun _ => trivial) (by kernel_rfl) (Deaf.thens (Deaf.body RetM.not_panicked)) (fun w_ _ => (by kernel_rfl)) trivial ?_
    refine DW.take (T := fun w_ => PH.all w_ p = some (.cells #[(.slice a21 ((row ++ ([(FactD.mk next t a14 xs xs.length)])).length) k21), (.map (some bm)), (.int .i64 next)] 61 (0, 0))) 3 (.map (some bm)) rfl (by kernel_rfl) rfl (by kernel_rfl) (.inr (by simp only [List.mem_cons, true_or, or_true])) (by kernel_rfl) (Deaf.thens (Deaf.body RetM.not_panicked)) (fun w_ T_ => (q_load (off := 1) rfl (by kernel_rfl) (by kernel_rfl) T_ (by kernel_rfl))) ((G28.drew).own _ _ B28.at) ?_
    refine DW.take (T := fun _ => True) 4 (.string (keyF t xs)) rfl (by kernel_rfl) rfl (by kernel_rfl) (.inl fun _ => trivial) (by kernel_rfl) (Deaf.thens (Deaf.body RetM.not_panicked)) (fun w_ _ => (by kernel_rfl)) trivial ?_
    refine DW.take (T := fun _ => True) 5 (.pointer (some ⟨b16, 0, none⟩)) rfl (by kernel_rfl) rfl (by kernel_rfl) (.inl fun _ => trivial) (by kernel_rfl) (Deaf.thens (Deaf.body RetM.not_panicked)) (fun w_ _ => (by kernel_rfl)) trivial ?_
    refine DW.take (T := fun w_ => PH.all w_ b16 = some (.cells #[(.int .i64 next), (.string t), (.slice a14 xs.length xs.length)] 55 (0, 0))) 6 (.int .i64 next) rfl (by kernel_rfl) rfl (by kernel_rfl) (.inr (by simp only [List.mem_cons, true_or, or_true])) (by kernel_rfl) (Deaf.thens (Deaf.body RetM.not_panicked)) (fun w_ T_ => (q_load (off := 0) rfl (by kernel_rfl) (by kernel_rfl) T_ (by kernel_rfl))) ((G28.drew).imm _ _ (l19 _ _ hb18)) ?_
    refine DW.only 7 (by kernel_rfl) ?_
    obtain ⟨N29, s30, s31⟩ : ∃ N_, Own 55 factE M0 N_ a21 k21 (row ++ ([(FactD.mk next t a14 xs xs.length)])) ∧ Blk bm (.map es clk) N_ N25 := Ly.swap (Ly.blk bm (.map es clk)) (Ly.own (E := factE) 55 a21 k21 (row ++ ([(FactD.mk next t a14 xs xs.length)]))) s23 s26
    obtain ⟨N32, s33, s34⟩ : ∃ N_, Blk p (.cells #[(.slice a21 ((row ++ ([(FactD.mk next t a14 xs xs.length)])).length) k21), (.map (some bm)), (.int .i64 next)] 61 (0, 0)) N29 N_ ∧ Blk bm (.map es clk) N_ M28 := Ly.swap (Ly.blk bm (.map es clk)) (Ly.blk p (.cells #[(.slice a21 ((row ++ ([(FactD.mk next t a14 xs xs.length)])).length) k21), (.map (some bm)), (.int .i64 next)] 61 (0, 0))) s31 B28
    refine DOp.exu rfl (by kernel_rfl) rfl (by kernel_rfl) (q_mapUp (k := ((keyF t xs))) (v := (.int .i64 next)) (G28.drew) s34 mi (by first | exact .inl rfl | exact .inr rfl) mapT59 (by kernel_rfl) (by kernel_rfl) (by kernel_rfl)) (fun w35 p_ => by obtain ⟨M35, es35, ck35, G35, B35, m35⟩ := p_; exact ⟨.inl (by kernel_rfl), .inl (by kernel_rfl), trivial⟩) ?_
    rintro w35 ⟨M35, es35, ck35, G35, B35, m35⟩
    refine DW.done (by kernel_rfl) ?_
    refine EX.then_code ?_
    refine CW.seq ?_
    refine CW.region ?_
    refine WL.q (.pointer (some ⟨p, 0, none⟩)) (by kernel_rfl) rfl (by kernel_rfl) (by kernel_rfl) ?_
    refine WL.q (.pointer (some ⟨p, 0, none⟩)) (by kernel_rfl) rfl (by kernel_rfl) (by kernel_rfl) ?_
    refine WL.q (.pointer (some ⟨p, 2, none⟩)) (by kernel_rfl) rfl (by kernel_rfl) (by kernel_rfl) ?_
    refine WL.q (.int .i64 next) (by kernel_rfl) rfl (by kernel_rfl) (q_load (off := 2) rfl (by kernel_rfl) (by kernel_rfl) (G35.own _ _ (B35.le _ _ s33.at)) (by kernel_rfl)) ?_
    refine WL.q (.int .i64 (next + 1)) (by kernel_rfl) rfl (by kernel_rfl) (q_int (x := IntKind.i64.wrap (next + 1)) (by kernel_rfl) (wrap_to (by omega) (by omega) (by omega))) ?_
    refine WL.q (.pointer (some ⟨p, 0, none⟩)) (by kernel_rfl) rfl (by kernel_rfl) (by kernel_rfl) ?_
    refine WL.q (.pointer (some ⟨p, 2, none⟩)) (by kernel_rfl) rfl (by kernel_rfl) (by kernel_rfl) ?_
    obtain ⟨N36, s37, s38⟩ : ∃ N_, Blk bm (.map es35 ck35) N29 N_ ∧ Blk p (.cells #[(.slice a21 ((row ++ ([(FactD.mk next t a14 xs xs.length)])).length) k21), (.map (some bm)), (.int .i64 next)] 61 (0, 0)) N_ M35 := Ly.swap (Ly.blk p (.cells #[(.slice a21 ((row ++ ([(FactD.mk next t a14 xs xs.length)])).length) k21), (.map (some bm)), (.int .i64 next)] 61 (0, 0))) (Ly.blk bm (.map es35 ck35)) s33 B35
    refine WL.exu (by kernel_rfl) rfl (by kernel_rfl) (q_storeB (off := 2) (et := 61) (v := (.int .i64 (next + 1))) (vs := [(.int .i64 (next + 1))]) #[(.slice a21 ((row ++ ([(FactD.mk next t a14 xs xs.length)])).length) k21), (.map (some bm)), (.int .i64 (next + 1))] G35 s38 rfl (by kernel_rfl) (by kernel_rfl) (by kernel_rfl) (by kernel_rfl) (by simp [Value.oneCell']) (by simp) (by kernel_rfl)) ?_
    rintro w39 ⟨M39, G39, B39⟩
    refine WL.nil ?_
    refine EX.then_code ?_
    refine CW.seq ?_
    refine CW.region ?_
    refine WL.q (.pointer (some ⟨b16, 0, none⟩)) (by kernel_rfl) rfl (by kernel_rfl) (by kernel_rfl) ?_
    refine WL.q (.int .i64 next) (by kernel_rfl) rfl (by kernel_rfl) (q_load (off := 0) rfl (by kernel_rfl) (by kernel_rfl) (G39.imm _ _ (l19 _ _ hb18)) (by kernel_rfl)) ?_
    refine WL.q (.int .i64 next) (by kernel_rfl) rfl (by kernel_rfl) (by kernel_rfl) ?_
    refine WL.q (.bool true) (by kernel_rfl) rfl (by kernel_rfl) (by kernel_rfl) ?_
    refine WL.q (.int .i64 0) (by kernel_rfl) rfl (by kernel_rfl) (by kernel_rfl) ?_
    refine WL.nil ?_
    refine EX.then_code ?_
    refine CW.ret ?_
    refine EX.ret3 (v := (.int .i64 next)) (x := (.bool true)) (y := (.int .i64 0)) rfl (by kernel_rfl) (by kernel_rfl) (by kernel_rfl) ?_
    exfalso; omega

theorem assert_new {K : Key} {w : World} {h M0 M : PH} (G : Wld K w h M) {p : Nat} {row : List FactD} {next : Int} (A : MemL h p row next M0 M) (T : Tab Tryd.prog h) {t : ByteArray} {a : Option Addr} {xs : List Val} {c : Nat} (Hx : RS h valE a xs) (hok : FactOk t xs) (R : RowOk row next) (hl : lookR row t xs = none) (hf : row.length < 1000) (hn : next < 1000000000) :
    Calls Tryd.prog 9 #[.pointer (some ⟨p, 0, none⟩), .string t, .slice a xs.length c] w (RetM K h fun h' M' v => ∃ a' c', v = .tuple #[.int .i64 next, .bool true, .int .i64 0] ∧ MemL h' p (row ++ [⟨next, t, a', xs, c'⟩]) (next + 1) M0 M' ∧ RowOk (row ++ [⟨next, t, a', xs, c'⟩]) (next + 1)) := by
  obtain ⟨bm, am, cm, es, clk, Ma, Mb, Ba, Bb, Oo, mi, gd⟩ := A
  have hlk : @List.lookup ByteArray Value instBEqOfDecidableEq (keyF t xs) (ents row) = none := by have q_ := ents_look row t xs; rw [hl] at q_; exact q_
  have hnx := R.nx
  refine enter (l := [(.pointer (some ⟨p, 0, none⟩)), (.string t), (.slice a xs.length c)]) Tryd.func9 rfl Tryd.ntmps9 (Nat.le_of_ble_eq_true rfl) ?_
  simp only [params]
  refine CW.seq ?_
  refine CW.region ?_
  refine WL.q (.int .i64 0) (by kernel_rfl) rfl (by kernel_rfl) (by kernel_rfl) ?_
  refine WL.q (.bool false) (by kernel_rfl) rfl (by kernel_rfl) (by kernel_rfl) ?_
  refine WL.q (.int .i64 0) (by kernel_rfl) rfl (by kernel_rfl) (by kernel_rfl) ?_
  refine WL.nil ?_
  refine EX.then_code ?_
  refine CW.seq ?_
  refine CW.region ?_
  refine WL.q (.string t) (by kernel_rfl) rfl (by kernel_rfl) (by kernel_rfl) ?_
  refine WL.q (.slice a xs.length c) (by kernel_rfl) rfl (by kernel_rfl) (by kernel_rfl) ?_
  refine WL.call (by kernel_rfl) rfl (by kernel_rfl) (by kernel_rfl) (key_spec G (T.mono (PH.le_refl _)) (xs := xs) (c := c) (Hx.mono (PH.le_refl _)) hok) (Ret.elim ?_)
  rintro w40 h40 _ l40 G40 rfl
  refine WL.q (.string (keyF t xs)) (by kernel_rfl) rfl (by kernel_rfl) (by kernel_rfl) ?_
  refine WL.nil ?_
  refine EX.then_code ?_
  refine CW.seq ?_
  refine CW.seq ?_
  refine CW.region ?_
  refine WL.q (.pointer (some ⟨p, 0, none⟩)) (by kernel_rfl) rfl (by kernel_rfl) (by kernel_rfl) ?_
  refine WL.q (.pointer (some ⟨p, 0, none⟩)) (by kernel_rfl) rfl (by kernel_rfl) (by kernel_rfl) ?_
  refine WL.q (.pointer (some ⟨p, 1, none⟩)) (by kernel_rfl) rfl (by kernel_rfl) (by kernel_rfl) ?_
  refine WL.q (.map (some bm)) (by kernel_rfl) rfl (by kernel_rfl) (q_load (off := 1) rfl (by kernel_rfl) (by kernel_rfl) (G40.own _ _ ((Bb.le.trans Oo.le) _ _ Ba.at)) (by kernel_rfl)) ?_
  refine WL.q (.string (keyF t xs)) (by kernel_rfl) rfl (by kernel_rfl) (by kernel_rfl) ?_
  refine WL.q (.tuple #[(.int .i64 0), (.bool false)]) (by kernel_rfl) rfl (by kernel_rfl) (q_lookup (k := (keyF t xs)) true rfl mapT59 (by kernel_rfl) (by kernel_rfl) (G40.own _ _ (Oo.le _ _ Bb.at)) mi (by rw [hlk]; rfl)) ?_
  refine WL.q (.tuple #[(.int .i64 0), (.bool false)]) (by kernel_rfl) rfl (by kernel_rfl) (by kernel_rfl) ?_
  refine WL.q (.int .i64 0) (by kernel_rfl) rfl (by kernel_rfl) (by kernel_rfl) ?_
  refine WL.q (.bool false) (by kernel_rfl) rfl (by kernel_rfl) (by kernel_rfl) ?_
  refine WL.q (.int .i64 0) (by kernel_rfl) rfl (by kernel_rfl) (by kernel_rfl) ?_
  refine WL.q (.bool false) (by kernel_rfl) rfl (by kernel_rfl) (by kernel_rfl) ?_
  refine WL.nil ?_
  refine EX.then_code ?_
  refine CW.seq ?_
  refine CW.region ?_
  refine WL.q (.bool false) (by kernel_rfl) rfl (by kernel_rfl) (by kernel_rfl) ?_
  refine WL.nil ?_
  refine EX.then_code ?_
  refine CW.cond_f (by kernel_rfl) (by kernel_rfl) ?_
  refine CW.skip ?_
  refine EX.then_code ?_
  refine CW.seq ?_
  refine CW.seq ?_
  refine CW.region ?_
  refine WL.q (.pointer (some ⟨p, 0, none⟩)) (by kernel_rfl) rfl (by kernel_rfl) (by kernel_rfl) ?_
  refine WL.q (.pointer (some ⟨p, 0, none⟩)) (by kernel_rfl) rfl (by kernel_rfl) (by kernel_rfl) ?_
  refine WL.q (.pointer (some ⟨p, 0, none⟩)) (by kernel_rfl) rfl (by kernel_rfl) (by kernel_rfl) ?_
  refine WL.q (.slice am row.length cm) (by kernel_rfl) rfl (by kernel_rfl) (q_load (off := 0) rfl (by kernel_rfl) (by kernel_rfl) (G40.own _ _ ((Bb.le.trans Oo.le) _ _ Ba.at)) (by kernel_rfl)) ?_
  refine WL.q (.int .i64 (row.length : Int)) (by kernel_rfl) rfl (by kernel_rfl) (by kernel_rfl) ?_
  refine WL.q (.bool (decide ((row.length : Int) ≥ 1000))) (by kernel_rfl) rfl (by kernel_rfl) (by kernel_rfl) ?_
  refine WL.nil ?_
  refine EX.then_code ?_
  refine CW.cond (decide ((row.length : Int) ≥ 1000)) (by kernel_rfl) (by kernel_rfl) (fun c41 => ?_) (fun c41 => ?_)
  ·
    skip
    have d42 := of_decide_eq_true c41
    refine CW.seq ?_
    refine CW.region ?_
    refine WL.q (.int .i64 0) (by kernel_rfl) rfl (by kernel_rfl) (by kernel_rfl) ?_
    refine WL.q (.bool false) (by kernel_rfl) rfl (by kernel_rfl) (by kernel_rfl) ?_
    refine WL.q (.int .i64 10) (by kernel_rfl) rfl (by kernel_rfl) (by kernel_rfl) ?_
    refine WL.nil ?_
    refine EX.then_code ?_
    refine CW.ret ?_
    refine EX.ret_then ?_
    refine EX.ret3 (v := (.int .i64 0)) (x := (.bool false)) (y := (.int .i64 10)) rfl (by kernel_rfl) (by kernel_rfl) (by kernel_rfl) ?_
    exfalso; omega
  ·
    skip
    have d43 := of_decide_eq_false c41
    refine CW.skip ?_
    refine EX.then_code ?_
    refine CW.seq ?_
    refine CW.region ?_
    refine WL.q (.pointer (some ⟨p, 0, none⟩)) (by kernel_rfl) rfl (by kernel_rfl) (by kernel_rfl) ?_
    refine WL.q (.pointer (some ⟨p, 0, none⟩)) (by kernel_rfl) rfl (by kernel_rfl) (by kernel_rfl) ?_
    refine WL.q (.pointer (some ⟨p, 2, none⟩)) (by kernel_rfl) rfl (by kernel_rfl) (by kernel_rfl) ?_
    refine WL.q (.int .i64 next) (by kernel_rfl) rfl (by kernel_rfl) (q_load (off := 2) rfl (by kernel_rfl) (by kernel_rfl) (G40.own _ _ ((Bb.le.trans Oo.le) _ _ Ba.at)) (by kernel_rfl)) ?_
    refine WL.q (.string t) (by kernel_rfl) rfl (by kernel_rfl) (by kernel_rfl) ?_
    refine WL.q (.slice a xs.length c) (by kernel_rfl) rfl (by kernel_rfl) (by kernel_rfl) ?_
    refine WL.q (.agg #[(.int .i64 next), (.string t), (.slice a xs.length c)]) (by kernel_rfl) rfl (by kernel_rfl) (by kernel_rfl) ?_
    refine WL.call (by kernel_rfl) rfl (by kernel_rfl) (by kernel_rfl) (apart_spec (f := (FactD.mk next t a xs c)) G40 (show factG h40 (FactD.mk next t a xs c) from (Hx.mono l40)) (by have := hok.2.1; show xs.length ≤ 1000000; omega)) (RetM.elim ?_)
    rintro w44 h44 M44 _ l44 G44 ⟨a44, k44, rfl, o44⟩
    obtain ⟨h45, l45, G45, r45⟩ := o44.freeze G44
    refine WL.ex (by kernel_rfl) rfl (by kernel_rfl) (q_newB (ob := (.cells #[(.int .i64 0), (.string (ByteArray.mk #[])), (.slice none 0 0)] 55 (0, 0))) G45 (fun b_ => .pointer (some ⟨b_, 0, none⟩)) (fun u_ => by kernel_rfl)) ?_
    rintro _ w46 ⟨b46, M46, rfl, G46, B46, L46⟩
    refine WL.exu (by kernel_rfl) rfl (by kernel_rfl) (q_storeB (off := 0) (et := 55) (v := (.agg #[(.int .i64 next), (.string t), (.slice a44 xs.length xs.length)])) (vs := [(.int .i64 next), (.string t), (.slice a44 xs.length xs.length)]) #[(.int .i64 next), (.string t), (.slice a44 xs.length xs.length)] G46 B46 rfl (by kernel_rfl) (by kernel_rfl) (by kernel_rfl) (by kernel_rfl) (by simp [Value.oneCell']) (by simp) (by kernel_rfl)) ?_
    rintro w47 ⟨M47, G47, B47⟩
    obtain ⟨h48, l48, G48, hb48⟩ := B47.freeze G47
    refine WL.nil ?_
    refine EX.then_code ?_
    refine CW.seq ?_
    refine CW.draw (by kernel_rfl) [(4, fun w_ => PH.all w_ p = some (.cells #[(.slice am row.length cm), .map (some bm), .int .i64 next] 61 (0, 0))), (5, fun w_ => PH.all w_ b46 = some (.cells #[(.int .i64 next), (.string t), (.slice a44 xs.length xs.length)] 55 (0, 0)))] ?_
    refine DW.take (T := fun _ => True) 0 (.pointer (some ⟨p, 0, none⟩)) rfl (by kernel_rfl) rfl (by kernel_rfl) (.inl fun _ => trivial) (by kernel_rfl) (Deaf.thens (Deaf.body RetM.not_panicked)) (fun w_ _ => (by kernel_rfl)) trivial ?_
    refine DW.take (T := fun _ => True) 1 (.pointer (some ⟨p, 0, none⟩)) rfl (by kernel_rfl) rfl (by kernel_rfl) (.inl fun _ => trivial) (by kernel_rfl) (Deaf.thens (Deaf.body RetM.not_panicked)) (fun w_ _ => (by kernel_rfl)) trivial ?_
    refine DW.take (T := fun _ => True) 2 (.pointer (some ⟨p, 0, none⟩)) rfl (by kernel_rfl) rfl (by kernel_rfl) (.inl fun _ => trivial) (by kernel_rfl) (Deaf.thens (Deaf.body RetM.not_panicked)) (fun w_ _ => (by kernel_rfl)) trivial ?_
    refine DW.take (T := fun _ => True) 3 (.pointer (some ⟨p, 0, none⟩)) rfl (by kernel_rfl) rfl (by kernel_rfl) (.inl fun _ => trivial) (by kernel_rfl) (Deaf.thens (Deaf.body RetM.not_panicked)) (fun w_ _ => (by kernel_rfl)) trivial ?_
    refine DW.take (T := fun w_ => PH.all w_ p = some (.cells #[(.slice am row.length cm), .map (some bm), .int .i64 next] 61 (0, 0))) 4 (.slice am row.length cm) rfl (by kernel_rfl) rfl (by kernel_rfl) (.inr (by simp only [List.mem_cons, true_or, or_true])) (by kernel_rfl) (Deaf.thens (Deaf.body RetM.not_panicked)) (fun w_ T_ => (q_load (off := 0) rfl (by kernel_rfl) (by kernel_rfl) T_ (by kernel_rfl))) ((G48.drew).own _ _ ((Bb.le.trans Oo.le) _ _ Ba.at)) ?_
    refine DW.take (T := fun w_ => PH.all w_ b46 = some (.cells #[(.int .i64 next), (.string t), (.slice a44 xs.length xs.length)] 55 (0, 0))) 5 (.agg #[(.int .i64 next), (.string t), (.slice a44 xs.length xs.length)]) rfl (by kernel_rfl) rfl (by kernel_rfl) (.inr (by simp only [List.mem_cons, true_or, or_true])) (by kernel_rfl) (Deaf.thens (Deaf.body RetM.not_panicked)) (fun w_ T_ => (q_loadAgg (off := 0) (vs := [(.int .i64 next), (.string t), (.slice a44 xs.length xs.length)]) rfl (by kernel_rfl) (by kernel_rfl) T_ (agg_at (by kernel_rfl)))) ((G48.drew).imm _ _ ((PH.le_refl _) _ _ hb48)) ?_
    refine DW.only 6 (by kernel_rfl) ?_
    refine DOp.ex rfl (by kernel_rfl) rfl (by kernel_rfl) (q_newF (ob := (.cells #[(.int .i64 next), (.string t), (.slice a44 xs.length xs.length)] 55 (0, 0))) (G48.drew) (fun b_ => .slice (some ⟨b_, 0, none⟩) 1 1) (fun u_ => by kernel_rfl)) (fun v_ w49 p_ => by obtain ⟨b49, h49, rfl, l49, G49, hb49, L49⟩ := p_; exact ⟨.inr (fun _ => (G49.own _ _ ((Bb.le.trans Oo.le) _ _ Ba.at))), .inl (by kernel_rfl), trivial⟩) ?_
    rintro _ w49 ⟨b49, h49, rfl, l49, G49, hb49, L49⟩
    have r50 : RS h49 factE (some ⟨b49, 0, none⟩) [(FactD.mk next t a44 xs xs.length)] := RS.blk hb49 (by kernel_rfl)
    have g50 : ∀ e_ ∈ [(FactD.mk next t a44 xs xs.length)], factG h49 e_ := (all_one (show factG h49 (FactD.mk next t a44 xs xs.length) from (r45.mono (l48.trans l49))))
    refine DW.only 7 (by kernel_rfl) ?_
    refine DOp.ex rfl (by kernel_rfl) rfl (by kernel_rfl) (q_app (e := 55) (bytes := 48) (cap := cm) (c2 := 1) (M0 := Mb) (xs := row) (ys := ([(FactD.mk next t a44 xs xs.length)])) G49 Oo (r50.mono ((PH.le_refl _).trans G49.imm)) rfl (by kernel_rfl) (by kernel_rfl) (by kernel_rfl) (by first | (simp only [maxLen, List.length_append, List.length_cons, List.length_nil]; omega) | (simp only [maxLen]; omega)) (by first | omega | (simp only [List.length_append, List.length_cons, List.length_nil]; omega))) (fun v_ w51 p_ => by obtain ⟨a51, k51, M51, rfl, G51, o51, z51⟩ := p_; exact ⟨.inl (by kernel_rfl), .inr (fun _ => (G51.imm _ _ (l49 _ _ hb48))), trivial⟩) ?_
    rintro _ w51 ⟨a51, k51, M51, rfl, G51, o51, z51⟩
    have g51 : ∀ e_ ∈ (row ++ ([(FactD.mk next t a44 xs xs.length)])), factG h49 e_ := all_app (all_up @factG.mono ((((l40.trans l44).trans l45).trans l48).trans l49) gd) g50
    refine DW.take (T := fun _ => True) 8 (.pointer (some ⟨p, 0, none⟩)) rfl (by kernel_rfl) rfl (by kernel_rfl) (.inl fun _ => trivial) (by kernel_rfl) (Deaf.thens (Deaf.body RetM.not_panicked)) (fun w_ _ => (by kernel_rfl)) trivial ?_
    refine DW.take (T := fun _ => True) 9 (.pointer (some ⟨p, 0, none⟩)) rfl (by kernel_rfl) rfl (by kernel_rfl) (.inl fun _ => trivial) (by kernel_rfl) (Deaf.thens (Deaf.body RetM.not_panicked)) (fun w_ _ => (by kernel_rfl)) trivial ?_
    refine DW.only 10 (by kernel_rfl) ?_
    obtain ⟨N52, s53, s54⟩ : ∃ N_, Blk bm (.map es clk) M0 N_ ∧ Blk p (.cells #[(.slice am row.length cm), .map (some bm), .int .i64 next] 61 (0, 0)) N_ Mb := Ly.swap (Ly.blk p (.cells #[(.slice am row.length cm), .map (some bm), .int .i64 next] 61 (0, 0))) (Ly.blk bm (.map es clk)) Ba Bb
    obtain ⟨N55, s56, s57⟩ : ∃ N_, Own 55 factE N52 N_ a51 k51 (row ++ ([(FactD.mk next t a44 xs xs.length)])) ∧ Blk p (.cells #[(.slice am row.length cm), .map (some bm), .int .i64 next] 61 (0, 0)) N_ M51 := Ly.swap (Ly.blk p (.cells #[(.slice am row.length cm), .map (some bm), .int .i64 next] 61 (0, 0))) (Ly.own (E := factE) 55 a51 k51 (row ++ ([(FactD.mk next t a44 xs xs.length)]))) s54 o51
    refine DOp.exu rfl (by kernel_rfl) rfl (by kernel_rfl) (q_storeB (off := 0) (et := 61) (v := (.slice a51 ((row ++ ([(FactD.mk next t a44 xs xs.length)])).length) k51)) (vs := [(.slice a51 ((row ++ ([(FactD.mk next t a44 xs xs.length)])).length) k51)]) #[(.slice a51 ((row ++ ([(FactD.mk next t a44 xs xs.length)])).length) k51), (.map (some bm)), (.int .i64 next)] G51 s57 rfl (by kernel_rfl) (by kernel_rfl) (by kernel_rfl) (by kernel_rfl) (by simp [Value.oneCell']) (by simp) (by kernel_rfl)) (fun w58 p_ => by obtain ⟨M58, G58, B58⟩ := p_; exact ⟨.inl (by kernel_rfl), .inl (by kernel_rfl), trivial⟩) ?_
    rintro w58 ⟨M58, G58, B58⟩
    refine DW.done (by kernel_rfl) ?_
    refine EX.then_code ?_
    refine CW.seq ?_
    refine CW.draw (by kernel_rfl) [(3, fun w_ => PH.all w_ p = some (.cells #[(.slice a51 ((row ++ ([(FactD.mk next t a44 xs xs.length)])).length) k51), (.map (some bm)), (.int .i64 next)] 61 (0, 0))), (6, fun w_ => PH.all w_ b46 = some (.cells #[(.int .i64 next), (.string t), (.slice a44 xs.length xs.length)] 55 (0, 0)))] ?_
    refine DW.take (T := fun _ => True) 0 (.pointer (some ⟨p, 0, none⟩)) rfl (by kernel_rfl) rfl (by kernel_rfl) (.inl fun _ => trivial) (by kernel_rfl) (Deaf.thens (Deaf.body RetM.not_panicked)) (fun w_ _ => (by kernel_rfl)) trivial ?_
    refine DW.take (T := fun _ => True) 1 (.pointer (some ⟨p, 0, none⟩)) rfl (by kernel_rfl) rfl (by kernel_rfl) (.inl fun _ => trivial) (by kernel_rfl) (Deaf.thens (Deaf.body RetM.not_panicked)) (fun w_ _ => (by kernel_rfl)) trivial ?_
    refine DW.take (T := fun _ => True) 2 (.pointer (some ⟨p, 1, none⟩)) rfl (by kernel_rfl) rfl (by kernel_rfl) (.inl fun _ => trivial) (by kernel_rfl) (Deaf.thens (Deaf.body RetM.not_panicked)) (fun w_ _ => (by kernel_rfl)) trivial ?_
    refine DW.take (T := fun w_ => PH.all w_ p = some (.cells #[(.slice a51 ((row ++ ([(FactD.mk next t a44 xs xs.length)])).length) k51), (.map (some bm)), (.int .i64 next)] 61 (0, 0))) 3 (.map (some bm)) rfl (by kernel_rfl) rfl (by kernel_rfl) (.inr (by simp only [List.mem_cons, true_or, or_true])) (by kernel_rfl) (Deaf.thens (Deaf.body RetM.not_panicked)) (fun w_ T_ => (q_load (off := 1) rfl (by kernel_rfl) (by kernel_rfl) T_ (by kernel_rfl))) ((G58.drew).own _ _ B58.at) ?_
    refine DW.take (T := fun _ => True) 4 (.string (keyF t xs)) rfl (by kernel_rfl) rfl (by kernel_rfl) (.inl fun _ => trivial) (by kernel_rfl) (Deaf.thens (Deaf.body RetM.not_panicked)) (fun w_ _ => (by kernel_rfl)) trivial ?_
    refine DW.take (T := fun _ => True) 5 (.pointer (some ⟨b46, 0, none⟩)) rfl (by kernel_rfl) rfl (by kernel_rfl) (.inl fun _ => trivial) (by kernel_rfl) (Deaf.thens (Deaf.body RetM.not_panicked)) (fun w_ _ => (by kernel_rfl)) trivial ?_
    refine DW.take (T := fun w_ => PH.all w_ b46 = some (.cells #[(.int .i64 next), (.string t), (.slice a44 xs.length xs.length)] 55 (0, 0))) 6 (.int .i64 next) rfl (by kernel_rfl) rfl (by kernel_rfl) (.inr (by simp only [List.mem_cons, true_or, or_true])) (by kernel_rfl) (Deaf.thens (Deaf.body RetM.not_panicked)) (fun w_ T_ => (q_load (off := 0) rfl (by kernel_rfl) (by kernel_rfl) T_ (by kernel_rfl))) ((G58.drew).imm _ _ (l49 _ _ hb48)) ?_
    refine DW.only 7 (by kernel_rfl) ?_
    obtain ⟨N59, s60, s61⟩ : ∃ N_, Own 55 factE M0 N_ a51 k51 (row ++ ([(FactD.mk next t a44 xs xs.length)])) ∧ Blk bm (.map es clk) N_ N55 := Ly.swap (Ly.blk bm (.map es clk)) (Ly.own (E := factE) 55 a51 k51 (row ++ ([(FactD.mk next t a44 xs xs.length)]))) s53 s56
    obtain ⟨N62, s63, s64⟩ : ∃ N_, Blk p (.cells #[(.slice a51 ((row ++ ([(FactD.mk next t a44 xs xs.length)])).length) k51), (.map (some bm)), (.int .i64 next)] 61 (0, 0)) N59 N_ ∧ Blk bm (.map es clk) N_ M58 := Ly.swap (Ly.blk bm (.map es clk)) (Ly.blk p (.cells #[(.slice a51 ((row ++ ([(FactD.mk next t a44 xs xs.length)])).length) k51), (.map (some bm)), (.int .i64 next)] 61 (0, 0))) s61 B58
    refine DOp.exu rfl (by kernel_rfl) rfl (by kernel_rfl) (q_mapUp (k := ((keyF t xs))) (v := (.int .i64 next)) (G58.drew) s64 mi (by first | exact .inl rfl | exact .inr rfl) mapT59 (by kernel_rfl) (by kernel_rfl) (by kernel_rfl)) (fun w65 p_ => by obtain ⟨M65, es65, ck65, G65, B65, m65⟩ := p_; exact ⟨.inl (by kernel_rfl), .inl (by kernel_rfl), trivial⟩) ?_
    rintro w65 ⟨M65, es65, ck65, G65, B65, m65⟩
    refine DW.done (by kernel_rfl) ?_
    refine EX.then_code ?_
    refine CW.seq ?_
    refine CW.region ?_
    refine WL.q (.pointer (some ⟨p, 0, none⟩)) (by kernel_rfl) rfl (by kernel_rfl) (by kernel_rfl) ?_
    refine WL.q (.pointer (some ⟨p, 0, none⟩)) (by kernel_rfl) rfl (by kernel_rfl) (by kernel_rfl) ?_
    refine WL.q (.pointer (some ⟨p, 2, none⟩)) (by kernel_rfl) rfl (by kernel_rfl) (by kernel_rfl) ?_
    refine WL.q (.int .i64 next) (by kernel_rfl) rfl (by kernel_rfl) (q_load (off := 2) rfl (by kernel_rfl) (by kernel_rfl) (G65.own _ _ (B65.le _ _ s63.at)) (by kernel_rfl)) ?_
    refine WL.q (.int .i64 (next + 1)) (by kernel_rfl) rfl (by kernel_rfl) (q_int (x := IntKind.i64.wrap (next + 1)) (by kernel_rfl) (wrap_to (by omega) (by omega) (by omega))) ?_
    refine WL.q (.pointer (some ⟨p, 0, none⟩)) (by kernel_rfl) rfl (by kernel_rfl) (by kernel_rfl) ?_
    refine WL.q (.pointer (some ⟨p, 2, none⟩)) (by kernel_rfl) rfl (by kernel_rfl) (by kernel_rfl) ?_
    obtain ⟨N66, s67, s68⟩ : ∃ N_, Blk bm (.map es65 ck65) N59 N_ ∧ Blk p (.cells #[(.slice a51 ((row ++ ([(FactD.mk next t a44 xs xs.length)])).length) k51), (.map (some bm)), (.int .i64 next)] 61 (0, 0)) N_ M65 := Ly.swap (Ly.blk p (.cells #[(.slice a51 ((row ++ ([(FactD.mk next t a44 xs xs.length)])).length) k51), (.map (some bm)), (.int .i64 next)] 61 (0, 0))) (Ly.blk bm (.map es65 ck65)) s63 B65
    refine WL.exu (by kernel_rfl) rfl (by kernel_rfl) (q_storeB (off := 2) (et := 61) (v := (.int .i64 (next + 1))) (vs := [(.int .i64 (next + 1))]) #[(.slice a51 ((row ++ ([(FactD.mk next t a44 xs xs.length)])).length) k51), (.map (some bm)), (.int .i64 (next + 1))] G65 s68 rfl (by kernel_rfl) (by kernel_rfl) (by kernel_rfl) (by kernel_rfl) (by simp [Value.oneCell']) (by simp) (by kernel_rfl)) ?_
    rintro w69 ⟨M69, G69, B69⟩
    refine WL.nil ?_
    refine EX.then_code ?_
    refine CW.seq ?_
    refine CW.region ?_
    refine WL.q (.pointer (some ⟨b46, 0, none⟩)) (by kernel_rfl) rfl (by kernel_rfl) (by kernel_rfl) ?_
    refine WL.q (.int .i64 next) (by kernel_rfl) rfl (by kernel_rfl) (q_load (off := 0) rfl (by kernel_rfl) (by kernel_rfl) (G69.imm _ _ (l49 _ _ hb48)) (by kernel_rfl)) ?_
    refine WL.q (.int .i64 next) (by kernel_rfl) rfl (by kernel_rfl) (by kernel_rfl) ?_
    refine WL.q (.bool true) (by kernel_rfl) rfl (by kernel_rfl) (by kernel_rfl) ?_
    refine WL.q (.int .i64 0) (by kernel_rfl) rfl (by kernel_rfl) (by kernel_rfl) ?_
    refine WL.nil ?_
    refine EX.then_code ?_
    refine CW.ret ?_
    refine EX.ret3 (v := (.int .i64 next)) (x := (.bool true)) (y := (.int .i64 0)) rfl (by kernel_rfl) (by kernel_rfl) (by kernel_rfl) ?_
    obtain ⟨N70, s71, s72⟩ : ∃ N_, Blk p (.cells #[(.slice a51 ((row ++ ([(FactD.mk next t a44 xs xs.length)])).length) k51), (.map (some bm)), (.int .i64 (next + 1))] 61 (0, 0)) N59 N_ ∧ Blk bm (.map es65 ck65) N_ M69 := Ly.swap (Ly.blk bm (.map es65 ck65)) (Ly.blk p (.cells #[(.slice a51 ((row ++ ([(FactD.mk next t a44 xs xs.length)])).length) k51), (.map (some bm)), (.int .i64 (next + 1))] 61 (0, 0))) s67 B69
    obtain ⟨N73, s74, s75⟩ : ∃ N_, Blk p (.cells #[(.slice a51 ((row ++ ([(FactD.mk next t a44 xs xs.length)])).length) k51), (.map (some bm)), (.int .i64 (next + 1))] 61 (0, 0)) M0 N_ ∧ Own 55 factE N_ N70 a51 k51 (row ++ ([(FactD.mk next t a44 xs xs.length)])) := Ly.swap (Ly.own (E := factE) 55 a51 k51 (row ++ ([(FactD.mk next t a44 xs xs.length)]))) (Ly.blk p (.cells #[(.slice a51 ((row ++ ([(FactD.mk next t a44 xs xs.length)])).length) k51), (.map (some bm)), (.int .i64 (next + 1))] 61 (0, 0))) s60 s71
    obtain ⟨N76, s77, s78⟩ : ∃ N_, Blk bm (.map es65 ck65) N73 N_ ∧ Own 55 factE N_ M69 a51 k51 (row ++ ([(FactD.mk next t a44 xs xs.length)])) := Ly.swap (Ly.own (E := factE) 55 a51 k51 (row ++ ([(FactD.mk next t a44 xs xs.length)]))) (Ly.blk bm (.map es65 ck65)) s75 s72
    exact RetM.mk ((((l40.trans l44).trans l45).trans l48).trans l49) G69 ⟨_, _, rfl, ⟨_, _, _, _, _, _, _, s74, s77, s78, ents_put hl next _ _ ▸ m65, g51⟩, R.push hl hok _ _ hf hn⟩
end Go.Proofs
