import Derived.Test.YtcogbcnnehkddaaT2
namespace Go.Proofs
open Go Go.Wk
theorem add_no {K : Key} {w : World} {h M0 M : PH} (G : Wld K w h M) {p bm : Nat} {ns : List Nd} {last : Int} (T : TreeM M0 M p bm ns last) {par fact : Int} (hn : ∀ n ∈ ns, n.id ≠ par) :
    Calls Try.prog 7 #[.pointer (some ⟨p, 0, none⟩), .int .i64 par, .int .i64 fact] w (Ret K h M fun _ v => v = .tuple #[.int .i64 0, .int .i64 5]) := by
  obtain ⟨es, clk, hb, hm⟩ := T.map
  have hl := ents_none hn
  refine enter (l := [(.pointer (some ⟨p, 0, none⟩)), (.int .i64 par), (.int .i64 fact)]) Try.func7 rfl Try.ntmps7 (Nat.le_of_ble_eq_true rfl) ?_
  simp only [params]
  refine CW.seq ?_
  refine CW.region ?_
  refine WL.q (.int .i64 0) (by kernel_rfl) rfl (by kernel_rfl) (by kernel_rfl) ?_
  refine WL.q (.int .i64 0) (by kernel_rfl) rfl (by kernel_rfl) (by kernel_rfl) ?_
  refine WL.nil ?_
  refine EX.then_code ?_
  refine CW.seq ?_
  refine CW.region ?_
  refine WL.q (.pointer (some ⟨p, 0, none⟩)) (by kernel_rfl) rfl (by kernel_rfl) (by kernel_rfl) ?_
  refine WL.q (.pointer (some ⟨p, 0, none⟩)) (by kernel_rfl) rfl (by kernel_rfl) (by kernel_rfl) ?_
  refine WL.q (.pointer (some ⟨p, 0, none⟩)) (by kernel_rfl) rfl (by kernel_rfl) (by kernel_rfl) ?_
  refine WL.q (.map (some bm)) (by kernel_rfl) rfl (by kernel_rfl) (q_load (off := 0) rfl (by kernel_rfl) (by kernel_rfl) (G.own _ _ T.root) (by kernel_rfl)) ?_
  refine WL.q (.int .i64 par) (by kernel_rfl) rfl (by kernel_rfl) (by kernel_rfl) ?_
  refine WL.q (.tuple #[(.pointer none), (.bool false)]) (by kernel_rfl) rfl (by kernel_rfl) (q_lookup (k := par) true rfl mapT49 (by kernel_rfl) (by kernel_rfl) (G.own _ _ hb) hm (by rw [hl]; rfl)) ?_
  refine WL.q (.tuple #[(.pointer none), (.bool false)]) (by kernel_rfl) rfl (by kernel_rfl) (by kernel_rfl) ?_
  refine WL.q (.pointer none) (by kernel_rfl) rfl (by kernel_rfl) (by kernel_rfl) ?_
  refine WL.q (.bool false) (by kernel_rfl) rfl (by kernel_rfl) (by kernel_rfl) ?_
  refine WL.q (.pointer none) (by kernel_rfl) rfl (by kernel_rfl) (by kernel_rfl) ?_
  refine WL.q (.bool false) (by kernel_rfl) rfl (by kernel_rfl) (by kernel_rfl) ?_
  refine WL.nil ?_
  refine EX.then_code ?_
  refine CW.seq ?_
  refine CW.block ?_
  refine CW.seq ?_
  refine CW.region ?_
  refine WL.q (.bool false) (by kernel_rfl) rfl (by kernel_rfl) (by kernel_rfl) ?_
  refine WL.q (.bool true) (by kernel_rfl) rfl (by kernel_rfl) (by kernel_rfl) ?_
  refine WL.q (.bool true) (by kernel_rfl) rfl (by kernel_rfl) (by kernel_rfl) ?_
  refine WL.nil ?_
  refine EX.then_code ?_
  refine CW.cond_t (by kernel_rfl) (by kernel_rfl) ?_
  refine CW.seq ?_
  refine CW.region ?_
  refine WL.q (.int .i64 0) (by kernel_rfl) rfl (by kernel_rfl) (by kernel_rfl) ?_
  refine WL.q (.int .i64 5) (by kernel_rfl) rfl (by kernel_rfl) (by kernel_rfl) ?_
  refine WL.nil ?_
  refine EX.then_code ?_
  refine CW.ret ?_
  refine EX.ret_block ?_
  refine EX.ret_then ?_
  refine EX.ret2 (v := (.int .i64 0)) (x := (.int .i64 5)) rfl (by kernel_rfl) (by kernel_rfl) ?_
  exact Ret.mk (PH.le_refl _) G (rfl)

theorem add_yes {K : Key} {w : World} {h M0 M : PH} (G : Wld K w h M) {p bm : Nat} {l r : List Nd} {n : Nd} {last : Int} (T : TreeM M0 M p bm (l ++ n :: r) last) {row : List Tok} (R : Rel (l ++ n :: r) row last) {fact : Int} (hl0 : 0 ≤ last) (hll : last ≤ 1000000) (hb : row.length ≤ 4000) :
    Calls Try.prog 7 #[.pointer (some ⟨p, 0, none⟩), .int .i64 n.id, .int .i64 fact] w (RetM K h fun _ M' v => v = .tuple #[.int .i64 (last + 1), .int .i64 0] ∧ TreeA M0 M' p (row ++ [⟨last + 1, n.id, fact⟩]) (last + 1)) := by
  obtain ⟨es, clk, hb, hm⟩ := T.map
  have hn : n ∈ l ++ n :: r := by simp
  have hl := ents_some T.ids hn
  have hkl : n.kids.length ≤ row.length := by rw [R.kids n hn]; exact kidsOf_len _ _
  have hrl := R.len
  have hfr := R.fresh hl0
  refine enter (l := [(.pointer (some ⟨p, 0, none⟩)), (.int .i64 n.id), (.int .i64 fact)]) Try.func7 rfl Try.ntmps7 (Nat.le_of_ble_eq_true rfl) ?_
  simp only [params]
  refine CW.seq ?_
  refine CW.region ?_
  refine WL.q (.int .i64 0) (by kernel_rfl) rfl (by kernel_rfl) (by kernel_rfl) ?_
  refine WL.q (.int .i64 0) (by kernel_rfl) rfl (by kernel_rfl) (by kernel_rfl) ?_
  refine WL.nil ?_
  refine EX.then_code ?_
  refine CW.seq ?_
  refine CW.region ?_
  refine WL.q (.pointer (some ⟨p, 0, none⟩)) (by kernel_rfl) rfl (by kernel_rfl) (by kernel_rfl) ?_
  refine WL.q (.pointer (some ⟨p, 0, none⟩)) (by kernel_rfl) rfl (by kernel_rfl) (by kernel_rfl) ?_
  refine WL.q (.pointer (some ⟨p, 0, none⟩)) (by kernel_rfl) rfl (by kernel_rfl) (by kernel_rfl) ?_
  refine WL.q (.map (some bm)) (by kernel_rfl) rfl (by kernel_rfl) (q_load (off := 0) rfl (by kernel_rfl) (by kernel_rfl) (G.own _ _ T.root) (by kernel_rfl)) ?_
  refine WL.q (.int .i64 n.id) (by kernel_rfl) rfl (by kernel_rfl) (by kernel_rfl) ?_
  refine WL.q (.tuple #[(.pointer (some ⟨n.b, 0, none⟩)), (.bool true)]) (by kernel_rfl) rfl (by kernel_rfl) (q_lookup (k := n.id) true rfl mapT49 (by kernel_rfl) (by kernel_rfl) (G.own _ _ hb) hm (by rw [hl]; rfl)) ?_
  refine WL.q (.tuple #[(.pointer (some ⟨n.b, 0, none⟩)), (.bool true)]) (by kernel_rfl) rfl (by kernel_rfl) (by kernel_rfl) ?_
  refine WL.q (.pointer (some ⟨n.b, 0, none⟩)) (by kernel_rfl) rfl (by kernel_rfl) (by kernel_rfl) ?_
  refine WL.q (.bool true) (by kernel_rfl) rfl (by kernel_rfl) (by kernel_rfl) ?_
  refine WL.q (.pointer (some ⟨n.b, 0, none⟩)) (by kernel_rfl) rfl (by kernel_rfl) (by kernel_rfl) ?_
  refine WL.q (.bool true) (by kernel_rfl) rfl (by kernel_rfl) (by kernel_rfl) ?_
  refine WL.nil ?_
  refine EX.then_code ?_
  refine CW.seq ?_
  refine CW.block ?_
  refine CW.seq ?_
  refine CW.region ?_
  refine WL.q (.bool true) (by kernel_rfl) rfl (by kernel_rfl) (by kernel_rfl) ?_
  refine WL.q (.bool false) (by kernel_rfl) rfl (by kernel_rfl) (by kernel_rfl) ?_
  refine WL.q (.bool false) (by kernel_rfl) rfl (by kernel_rfl) (by kernel_rfl) ?_
  refine WL.nil ?_
  refine EX.then_code ?_
  refine CW.cond_f (by kernel_rfl) (by kernel_rfl) ?_
  refine CW.seq ?_
  refine CW.region ?_
  refine WL.q (.pointer (some ⟨p, 0, none⟩)) (by kernel_rfl) rfl (by kernel_rfl) (by kernel_rfl) ?_
  refine WL.call (by kernel_rfl) rfl (by kernel_rfl) (by kernel_rfl) (len_spec G T (by have := R.len; omega)) (Ret.elim ?_)
  rintro w1 h1 _ l1 G1 rfl
  refine WL.q (.bool (decide ((((l ++ n :: r).length : Int) - 1) ≥ 4096))) (by kernel_rfl) rfl (by kernel_rfl) (by kernel_rfl) ?_
  refine WL.q (.bool (decide ((((l ++ n :: r).length : Int) - 1) ≥ 4096))) (by kernel_rfl) rfl (by kernel_rfl) (by kernel_rfl) ?_
  refine WL.nil ?_
  refine EX.then_code ?_
  refine CW.cond (decide ((((l ++ n :: r).length : Int) - 1) ≥ 4096)) (by kernel_rfl) (by kernel_rfl) (fun c2 => ?_) (fun c2 => ?_)
  ·
    skip
    have d3 := of_decide_eq_true c2
    refine CW.seq ?_
    refine CW.region ?_
    refine WL.q (.int .i64 0) (by kernel_rfl) rfl (by kernel_rfl) (by kernel_rfl) ?_
    refine WL.q (.int .i64 10) (by kernel_rfl) rfl (by kernel_rfl) (by kernel_rfl) ?_
    refine WL.nil ?_
    refine EX.then_code ?_
    refine CW.ret ?_
    refine EX.ret_block ?_
    refine EX.ret_then ?_
    refine EX.ret2 (v := (.int .i64 0)) (x := (.int .i64 10)) rfl (by kernel_rfl) (by kernel_rfl) ?_
    omega
  ·
    skip
    have d4 := of_decide_eq_false c2
    refine CW.skip ?_
    refine EX.in_block ?_
    refine EX.then_code ?_
    refine CW.seq ?_
    refine CW.region ?_
    refine WL.q (.pointer (some ⟨p, 0, none⟩)) (by kernel_rfl) rfl (by kernel_rfl) (by kernel_rfl) ?_
    refine WL.q (.pointer (some ⟨p, 0, none⟩)) (by kernel_rfl) rfl (by kernel_rfl) (by kernel_rfl) ?_
    refine WL.q (.pointer (some ⟨p, 1, none⟩)) (by kernel_rfl) rfl (by kernel_rfl) (by kernel_rfl) ?_
    refine WL.q (.int .i64 last) (by kernel_rfl) rfl (by kernel_rfl) (q_load (off := 1) rfl (by kernel_rfl) (by kernel_rfl) (G1.own _ _ T.root) (by kernel_rfl)) ?_
    refine WL.q (.int .i64 (last + 1)) (by kernel_rfl) rfl (by kernel_rfl) (q_int (x := IntKind.i64.wrap (last + 1)) (by kernel_rfl) (wrap_to (by omega) (by omega) (by omega))) ?_
    refine WL.q (.pointer (some ⟨p, 0, none⟩)) (by kernel_rfl) rfl (by kernel_rfl) (by kernel_rfl) ?_
    refine WL.q (.pointer (some ⟨p, 1, none⟩)) (by kernel_rfl) rfl (by kernel_rfl) (by kernel_rfl) ?_
    refine WL.store #[(.map (some bm)), (.int .i64 (last + 1))] (et := 51) (v := (.int .i64 (last + 1))) (vs := [(.int .i64 (last + 1))]) (off := 1) G1 T.root rfl (by kernel_rfl) (by kernel_rfl) rfl (by kernel_rfl) (by kernel_rfl) (by kernel_rfl) (by kernel_rfl) (by simp [Value.oneCell']) (by simp) (by kernel_rfl) ?_
    intro w5 G5
    have T1 := T.setLast (last + 1)
    obtain ⟨es1, clk1, hb1, hm1⟩ := T1.map
    have ow1 := (T1.kids hn).1
    obtain ⟨hr1, hb1n⟩ := T1.apart hn
    refine WL.nil ?_
    refine EX.then_code ?_
    refine CW.seq ?_
    refine CW.draw (by kernel_rfl) [(4, fun w_ => PH.all w_ n.b = some (nodeObj n)), (8, fun w_ => PH.all w_ p = some (rootObj bm (last + 1)))] ?_
    refine DW.take (T := fun _ => True) 0 (.pointer (some ⟨n.b, 0, none⟩)) rfl (by kernel_rfl) rfl (by kernel_rfl) (.inl fun _ => trivial) (by kernel_rfl) (Deaf.thens (Deaf.body RetM.not_panicked)) (fun w_ _ => (by kernel_rfl)) trivial ?_
    refine DW.take (T := fun _ => True) 1 (.pointer (some ⟨n.b, 0, none⟩)) rfl (by kernel_rfl) rfl (by kernel_rfl) (.inl fun _ => trivial) (by kernel_rfl) (Deaf.thens (Deaf.body RetM.not_panicked)) (fun w_ _ => (by kernel_rfl)) trivial ?_
    refine DW.take (T := fun _ => True) 2 (.pointer (some ⟨n.b, 0, none⟩)) rfl (by kernel_rfl) rfl (by kernel_rfl) (.inl fun _ => trivial) (by kernel_rfl) (Deaf.thens (Deaf.body RetM.not_panicked)) (fun w_ _ => (by kernel_rfl)) trivial ?_
    refine DW.take (T := fun _ => True) 3 (.pointer (some ⟨n.b, 2, none⟩)) rfl (by kernel_rfl) rfl (by kernel_rfl) (.inl fun _ => trivial) (by kernel_rfl) (Deaf.thens (Deaf.body RetM.not_panicked)) (fun w_ _ => (by kernel_rfl)) trivial ?_
    refine DW.take (T := fun w_ => PH.all w_ n.b = some (nodeObj n)) 4 (.slice n.ka n.kids.length n.kc) rfl (by kernel_rfl) rfl (by kernel_rfl) (.inr (by simp only [List.mem_cons, true_or, or_true])) (by kernel_rfl) (Deaf.thens (Deaf.body RetM.not_panicked)) (fun w_ T_ => (q_load (off := 2) rfl (by kernel_rfl) (by kernel_rfl) T_ (by kernel_rfl))) ((G5.drew).own _ _ (ow1.le _ _ hb1n)) ?_
    refine DW.take (T := fun _ => True) 5 (.pointer (some ⟨p, 0, none⟩)) rfl (by kernel_rfl) rfl (by kernel_rfl) (.inl fun _ => trivial) (by kernel_rfl) (Deaf.thens (Deaf.body RetM.not_panicked)) (fun w_ _ => (by kernel_rfl)) trivial ?_
    refine DW.take (T := fun _ => True) 6 (.pointer (some ⟨p, 0, none⟩)) rfl (by kernel_rfl) rfl (by kernel_rfl) (.inl fun _ => trivial) (by kernel_rfl) (Deaf.thens (Deaf.body RetM.not_panicked)) (fun w_ _ => (by kernel_rfl)) trivial ?_
    refine DW.take (T := fun _ => True) 7 (.pointer (some ⟨p, 1, none⟩)) rfl (by kernel_rfl) rfl (by kernel_rfl) (.inl fun _ => trivial) (by kernel_rfl) (Deaf.thens (Deaf.body RetM.not_panicked)) (fun w_ _ => (by kernel_rfl)) trivial ?_
    refine DW.take (T := fun w_ => PH.all w_ p = some (rootObj bm (last + 1))) 8 (.int .i64 (last + 1)) rfl (by kernel_rfl) rfl (by kernel_rfl) (.inr (by simp only [List.mem_cons, true_or, or_true])) (by kernel_rfl) (Deaf.thens (Deaf.body RetM.not_panicked)) (fun w_ T_ => (q_load (off := 1) rfl (by kernel_rfl) (by kernel_rfl) T_ (by kernel_rfl))) ((G5.drew).own _ _ (ow1.le _ _ hr1)) ?_
    refine DW.only 9 (by kernel_rfl) ?_
    refine DOp.new (ob := (.cells #[(.int .i64 (last + 1))] 3)) (G5.drew) rfl (by kernel_rfl) rfl (by kernel_rfl) (fun b_ => .slice (some ⟨b_, 0, none⟩) 1 1) (fun u_ => by kernel_rfl) ⟨.inr (fun T_ => le_all_alloc _ _ _ _ T_), .inl (by kernel_rfl), trivial⟩ ?_
    intro b7 w7 n7 i7 G7
    refine DW.only 10 (by kernel_rfl) ?_
    refine DOp.append (e := 3) (bytes := 8) (cap := n.kc) (c2 := 1) (M0 := ((M.set p (rootObj bm (last + 1))).without (gf n))) (xs := n.kids) (ys := ([(last + 1)])) G7 (PH.le_set _ n7) ow1 (PH.le_refl _) (RS.blk (E := intE) (xs := [(last + 1)]) (G7.own _ _ (PH.set_same _ _ _)) (by kernel_rfl)) rfl rfl (by kernel_rfl) (by kernel_rfl) rfl (by kernel_rfl) (by kernel_rfl) (by kernel_rfl) (by first | (simp only [maxLen, List.length_append, List.length_cons, List.length_nil]; omega) | (simp only [maxLen]; omega)) (by first | omega | (simp only [List.length_append, List.length_cons, List.length_nil]; omega)) (fun a_ k_ w_ M_ G_ o_ => ⟨.inl (by kernel_rfl), .inr (fun _ => (G_.own _ _ (o_.le _ _ hr1))), trivial⟩) ?_
    intro a8 k8 w8 M8 G8 o8 z8
    refine DW.take (T := fun _ => True) 11 (.pointer (some ⟨n.b, 0, none⟩)) rfl (by kernel_rfl) rfl (by kernel_rfl) (.inl fun _ => trivial) (by kernel_rfl) (Deaf.thens (Deaf.body RetM.not_panicked)) (fun w_ _ => (by kernel_rfl)) trivial ?_
    refine DW.take (T := fun _ => True) 12 (.pointer (some ⟨n.b, 2, none⟩)) rfl (by kernel_rfl) rfl (by kernel_rfl) (.inl fun _ => trivial) (by kernel_rfl) (Deaf.thens (Deaf.body RetM.not_panicked)) (fun w_ _ => (by kernel_rfl)) trivial ?_
    refine DW.only 13 (by kernel_rfl) ?_
    obtain ⟨hM2, T2⟩ := T1.upd o8
    refine DOp.store #[(.int .i64 n.parent), (.int .i64 n.fact), (.slice a8 (((n.kids ++ ([(last + 1)]))).length) k8)] (et := 48) (v := (.slice a8 ((n.kids ++ ([(last + 1)])).length) k8)) (vs := [(.slice a8 ((n.kids ++ ([(last + 1)])).length) k8)]) (off := 2) G8 hM2 rfl rfl (by kernel_rfl) (by kernel_rfl) rfl (by kernel_rfl) (by kernel_rfl) (by kernel_rfl) (by kernel_rfl) (by simp [Value.oneCell']) (by simp) (by kernel_rfl) (fun w_ G_ => ⟨.inl (by kernel_rfl), .inl (by kernel_rfl), trivial⟩) ?_
    intro w9 G9
    have hnd := T.ids
    obtain ⟨es2, clk2, hb2, hm2⟩ := T2.map
    refine DW.done (by kernel_rfl) ?_
    refine EX.then_code ?_
    refine CW.seq ?_
    refine CW.draw (by kernel_rfl) [(3, fun w_ => PH.all w_ p = some (rootObj bm (last + 1))), (7, fun w_ => PH.all w_ p = some (rootObj bm (last + 1)))] ?_
    refine DW.take (T := fun _ => True) 0 (.pointer (some ⟨p, 0, none⟩)) rfl (by kernel_rfl) rfl (by kernel_rfl) (.inl fun _ => trivial) (by kernel_rfl) (Deaf.thens (Deaf.body RetM.not_panicked)) (fun w_ _ => (by kernel_rfl)) trivial ?_
    refine DW.take (T := fun _ => True) 1 (.pointer (some ⟨p, 0, none⟩)) rfl (by kernel_rfl) rfl (by kernel_rfl) (.inl fun _ => trivial) (by kernel_rfl) (Deaf.thens (Deaf.body RetM.not_panicked)) (fun w_ _ => (by kernel_rfl)) trivial ?_
    refine DW.take (T := fun _ => True) 2 (.pointer (some ⟨p, 0, none⟩)) rfl (by kernel_rfl) rfl (by kernel_rfl) (.inl fun _ => trivial) (by kernel_rfl) (Deaf.thens (Deaf.body RetM.not_panicked)) (fun w_ _ => (by kernel_rfl)) trivial ?_
    refine DW.take (T := fun w_ => PH.all w_ p = some (rootObj bm (last + 1))) 3 (.map (some bm)) rfl (by kernel_rfl) rfl (by kernel_rfl) (.inr (by simp only [List.mem_cons, true_or, or_true])) (by kernel_rfl) (Deaf.thens (Deaf.body RetM.not_panicked)) (fun w_ T_ => (q_load (off := 0) rfl (by kernel_rfl) (by kernel_rfl) T_ (by kernel_rfl))) ((G9.drew).own _ _ T2.root) ?_
    refine DW.take (T := fun _ => True) 4 (.pointer (some ⟨p, 0, none⟩)) rfl (by kernel_rfl) rfl (by kernel_rfl) (.inl fun _ => trivial) (by kernel_rfl) (Deaf.thens (Deaf.body RetM.not_panicked)) (fun w_ _ => (by kernel_rfl)) trivial ?_
    refine DW.take (T := fun _ => True) 5 (.pointer (some ⟨p, 0, none⟩)) rfl (by kernel_rfl) rfl (by kernel_rfl) (.inl fun _ => trivial) (by kernel_rfl) (Deaf.thens (Deaf.body RetM.not_panicked)) (fun w_ _ => (by kernel_rfl)) trivial ?_
    refine DW.take (T := fun _ => True) 6 (.pointer (some ⟨p, 1, none⟩)) rfl (by kernel_rfl) rfl (by kernel_rfl) (.inl fun _ => trivial) (by kernel_rfl) (Deaf.thens (Deaf.body RetM.not_panicked)) (fun w_ _ => (by kernel_rfl)) trivial ?_
    refine DW.take (T := fun w_ => PH.all w_ p = some (rootObj bm (last + 1))) 7 (.int .i64 (last + 1)) rfl (by kernel_rfl) rfl (by kernel_rfl) (.inr (by simp only [List.mem_cons, true_or, or_true])) (by kernel_rfl) (Deaf.thens (Deaf.body RetM.not_panicked)) (fun w_ T_ => (q_load (off := 1) rfl (by kernel_rfl) (by kernel_rfl) T_ (by kernel_rfl))) ((G9.drew).own _ _ T2.root) ?_
    refine DW.take (T := fun _ => True) 8 (.int .i64 n.id) rfl (by kernel_rfl) rfl (by kernel_rfl) (.inl fun _ => trivial) (by kernel_rfl) (Deaf.thens (Deaf.body RetM.not_panicked)) (fun w_ _ => (by kernel_rfl)) trivial ?_
    refine DW.take (T := fun _ => True) 9 (.int .i64 fact) rfl (by kernel_rfl) rfl (by kernel_rfl) (.inl fun _ => trivial) (by kernel_rfl) (Deaf.thens (Deaf.body RetM.not_panicked)) (fun w_ _ => (by kernel_rfl)) trivial ?_
    refine DW.take (T := fun _ => True) 10 (.agg #[(.int .i64 n.id), (.int .i64 fact), (.slice none 0 0)]) rfl (by kernel_rfl) rfl (by kernel_rfl) (.inl fun _ => trivial) (by kernel_rfl) (Deaf.thens (Deaf.body RetM.not_panicked)) (fun w_ _ => (by kernel_rfl)) trivial ?_
    refine DW.only 11 (by kernel_rfl) ?_
    refine DOp.new (ob := (.cells #[(.int .i64 n.id), (.int .i64 fact), (.slice none 0 0)] 48)) (G9.drew) rfl (by kernel_rfl) rfl (by kernel_rfl) (fun b_ => .pointer (some ⟨b_, 0, none⟩)) (fun u_ => by kernel_rfl) ⟨.inr (fun T_ => le_all_alloc _ _ _ _ T_), .inr (fun T_ => le_all_alloc _ _ _ _ T_), trivial⟩ ?_
    intro b11 w11 n11 i11 G11
    refine DW.only 12 (by kernel_rfl) ?_
    refine DOp.mapUpdate (k := (last + 1 : Int)) (v := .pointer (some ⟨b11, 0, none⟩)) G11 (PH.le_set _ n11 _ _ hb2) hm2 rfl rfl mapT49 (by kernel_rfl) (by kernel_rfl) (by kernel_rfl) (by kernel_rfl) rfl (by kernel_rfl) (fun w_ M_ G_ => ⟨.inl (by kernel_rfl), .inl (by kernel_rfl), trivial⟩) ?_
    intro w12 es3 clk3 G12 hm3
    have T3 := T2.add n11 (last + 1) n.id fact (hfr _ _ _) hm3
    refine DW.done (by kernel_rfl) ?_
    refine EX.then_code ?_
    refine CW.seq ?_
    refine CW.region ?_
    refine WL.q (.pointer (some ⟨p, 0, none⟩)) (by kernel_rfl) rfl (by kernel_rfl) (by kernel_rfl) ?_
    refine WL.q (.pointer (some ⟨p, 0, none⟩)) (by kernel_rfl) rfl (by kernel_rfl) (by kernel_rfl) ?_
    refine WL.q (.pointer (some ⟨p, 1, none⟩)) (by kernel_rfl) rfl (by kernel_rfl) (by kernel_rfl) ?_
    refine WL.q (.int .i64 (last + 1)) (by kernel_rfl) rfl (by kernel_rfl) (q_load (off := 1) rfl (by kernel_rfl) (by kernel_rfl) (G12.own _ _ T3.root) (by kernel_rfl)) ?_
    refine WL.q (.int .i64 (last + 1)) (by kernel_rfl) rfl (by kernel_rfl) (by kernel_rfl) ?_
    refine WL.q (.int .i64 0) (by kernel_rfl) rfl (by kernel_rfl) (by kernel_rfl) ?_
    refine WL.nil ?_
    refine EX.then_code ?_
    refine CW.ret ?_
    refine EX.ret2 (v := (.int .i64 (last + 1))) (x := (.int .i64 0)) rfl (by kernel_rfl) (by kernel_rfl) ?_
    exact RetM.mk ((PH.le_refl _).trans l1) G12 ⟨rfl, bm, _, T3, R.add T.ids hl0 fact _ _ _⟩
end Go.Proofs
