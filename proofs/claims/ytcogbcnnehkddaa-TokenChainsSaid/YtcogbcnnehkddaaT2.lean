import Derived.Test.YtcogbcnnehkddaaT1
namespace Go.Proofs
open Go Go.Wk
theorem new_spec {K : Key} {w : World} {h M : PH} (G : Wld K w h M) :
    Calls Try.prog 6 #[] w (RetM K h fun _ M' v => ∃ p bm b, v = .pointer (some ⟨p, 0, none⟩) ∧ TreeM M M' p bm [⟨0, -1, 0, [], b, none, 0⟩] 0) := by
  refine enter (l := []) Try.func6 rfl Try.ntmps6 (Nat.le_of_ble_eq_true rfl) ?_
  simp only [params]
  refine CW.seq ?_
  refine CW.region ?_
  refine WL.q (.pointer none) (by kernel_rfl) rfl (by kernel_rfl) (by kernel_rfl) ?_
  refine WL.nil ?_
  refine EX.then_code ?_
  refine CW.seq ?_
  refine CW.region ?_
  refine WL.new (ob := (.map #[] 0)) G (by kernel_rfl) rfl (by kernel_rfl) (fun b_ => .map (some b_)) (fun u_ => by kernel_rfl) ?_
  intro b1 w1 n1 i1 G1
  refine WL.q (.agg #[(.int .i64 (-1)), (.int .i64 0), (.slice none 0 0)]) (by kernel_rfl) rfl (by kernel_rfl) (by kernel_rfl) ?_
  refine WL.new (ob := (.cells #[(.int .i64 (-1)), (.int .i64 0), (.slice none 0 0)] 48)) G1 (by kernel_rfl) rfl (by kernel_rfl) (fun b_ => .pointer (some ⟨b_, 0, none⟩)) (fun u_ => by kernel_rfl) ?_
  intro b2 w2 n2 i2 G2
  refine WL.mapUpdate (k := (0 : Int)) (v := .pointer (some ⟨b2, 0, none⟩)) G2 ((PH.le_set _ n2) _ _ (PH.set_same _ _ _)) (MapIs.empty intK_key intK_inj 0) (.inr rfl) mapT49 (by kernel_rfl) (by kernel_rfl) (by kernel_rfl) (by kernel_rfl) rfl (by kernel_rfl) ?_
  intro w3 es' clk' G3 hm'
  refine WL.q (.map (some b1)) (by kernel_rfl) rfl (by kernel_rfl) (by kernel_rfl) ?_
  refine WL.q (.agg #[(.map (some b1)), (.int .i64 0)]) (by kernel_rfl) rfl (by kernel_rfl) (by kernel_rfl) ?_
  refine WL.new (ob := (.cells #[(.map (some b1)), (.int .i64 0)] 51)) G3 (by kernel_rfl) rfl (by kernel_rfl) (fun b_ => .pointer (some ⟨b_, 0, none⟩)) (fun u_ => by kernel_rfl) ?_
  intro b4 w4 n4 i4 G4
  refine WL.q (.pointer (some ⟨b4, 0, none⟩)) (by kernel_rfl) rfl (by kernel_rfl) (by kernel_rfl) ?_
  refine WL.nil ?_
  refine EX.then_code ?_
  refine CW.ret ?_
  refine EX.ret1 (v := (.pointer (some ⟨b4, 0, none⟩))) rfl (by kernel_rfl) ?_
  exact RetM.mk (PH.le_refl _) G4 ⟨_, _, _, rfl, TreeM.new n1 n2 hm' n4⟩

theorem path_no {K : Key} {w : World} {h M0 M : PH} (G : Wld K w h M) {p bm : Nat} {ns : List Nd} {last : Int} (T : TreeM M0 M p bm ns last) {id : Int} (hn : ∀ n ∈ ns, n.id ≠ id) :
    Calls Try.prog 14 #[.pointer (some ⟨p, 0, none⟩), .int .i64 id] w (Ret K h M fun _ v => v = .tuple #[.slice none 0 0, .bool false]) := by
  obtain ⟨es, clk, hb, hm⟩ := T.map
  have hl := ents_none hn
  refine enter (l := [(.pointer (some ⟨p, 0, none⟩)), (.int .i64 id)]) Try.func14 rfl Try.ntmps14 (Nat.le_of_ble_eq_true rfl) ?_
  simp only [params]
  refine CW.seq ?_
  refine CW.region ?_
  refine WL.q (.slice none 0 0) (by kernel_rfl) rfl (by kernel_rfl) (by kernel_rfl) ?_
  refine WL.q (.bool false) (by kernel_rfl) rfl (by kernel_rfl) (by kernel_rfl) ?_
  refine WL.nil ?_
  refine EX.then_code ?_
  refine CW.seq ?_
  refine CW.seq ?_
  refine CW.region ?_
  refine WL.q (.pointer (some ⟨p, 0, none⟩)) (by kernel_rfl) rfl (by kernel_rfl) (by kernel_rfl) ?_
  refine WL.q (.pointer (some ⟨p, 0, none⟩)) (by kernel_rfl) rfl (by kernel_rfl) (by kernel_rfl) ?_
  refine WL.q (.pointer (some ⟨p, 0, none⟩)) (by kernel_rfl) rfl (by kernel_rfl) (by kernel_rfl) ?_
  refine WL.q (.map (some bm)) (by kernel_rfl) rfl (by kernel_rfl) (q_load (off := 0) rfl (by kernel_rfl) (by kernel_rfl) (G.own _ _ T.root) (by kernel_rfl)) ?_
  refine WL.q (.int .i64 id) (by kernel_rfl) rfl (by kernel_rfl) (by kernel_rfl) ?_
  refine WL.q (.tuple #[(.pointer none), (.bool false)]) (by kernel_rfl) rfl (by kernel_rfl) (q_lookup (k := id) true rfl mapT49 (by kernel_rfl) (by kernel_rfl) (G.own _ _ hb) hm (by rw [hl]; rfl)) ?_
  refine WL.q (.tuple #[(.pointer none), (.bool false)]) (by kernel_rfl) rfl (by kernel_rfl) (by kernel_rfl) ?_
  refine WL.q (.pointer none) (by kernel_rfl) rfl (by kernel_rfl) (by kernel_rfl) ?_
  refine WL.q (.bool false) (by kernel_rfl) rfl (by kernel_rfl) (by kernel_rfl) ?_
  refine WL.q (.pointer none) (by kernel_rfl) rfl (by kernel_rfl) (by kernel_rfl) ?_
  refine WL.q (.bool false) (by kernel_rfl) rfl (by kernel_rfl) (by kernel_rfl) ?_
  refine WL.nil ?_
  refine EX.then_code ?_
  refine CW.seq ?_
  refine CW.region ?_
  refine WL.q (.bool false) (by kernel_rfl) rfl (by kernel_rfl) (by kernel_rfl) ?_
  refine WL.q (.bool true) (by kernel_rfl) rfl (by kernel_rfl) (by kernel_rfl) ?_
  refine WL.nil ?_
  refine EX.then_code ?_
  refine CW.cond_t (by kernel_rfl) (by kernel_rfl) ?_
  refine CW.seq ?_
  refine CW.region ?_
  refine WL.q (.slice none 0 0) (by kernel_rfl) rfl (by kernel_rfl) (by kernel_rfl) ?_
  refine WL.q (.bool false) (by kernel_rfl) rfl (by kernel_rfl) (by kernel_rfl) ?_
  refine WL.nil ?_
  refine EX.then_code ?_
  refine CW.ret ?_
  refine EX.ret_then ?_
  refine EX.ret2 (v := (.slice none 0 0)) (x := (.bool false)) rfl (by kernel_rfl) (by kernel_rfl) ?_
  exact Ret.mk (PH.le_refl _) G (rfl)

theorem path_yes {K : Key} {w : World} {h M0 M : PH} (G : Wld K w h M) {p bm : Nat} {ns : List Nd} {last : Int} (T : TreeM M0 M p bm ns last) {row : List Tok} (R : Rel ns row last) {id0 : Int} (h0 : id0 = 0 ∨ 0 ≤ atF row id0) (hb : row.length ≤ 1000000) :
    Calls Try.prog 14 #[.pointer (some ⟨p, 0, none⟩), .int .i64 id0] w (Ret K h M fun h' v => ∃ a, v = .tuple #[.slice a (pathN row (row.length + 1) id0).length (pathN row (row.length + 1) id0).length, .bool true] ∧ RS h' intE a (pathN row (row.length + 1) id0)) := by
  obtain ⟨es, clk, hb_, hm⟩ := T.map
  obtain ⟨n, hn, hnid⟩ := R.find h0
  have hl : (ents ns).lookup id0 = some (.pointer (some ⟨n.b, 0, none⟩)) := by rw [← hnid]; exact ents_some T.ids hn
  refine enter (l := [(.pointer (some ⟨p, 0, none⟩)), (.int .i64 id0)]) Try.func14 rfl Try.ntmps14 (Nat.le_of_ble_eq_true rfl) ?_
  simp only [params]
  refine CW.seq ?_
  refine CW.region ?_
  refine WL.q (.slice none 0 0) (by kernel_rfl) rfl (by kernel_rfl) (by kernel_rfl) ?_
  refine WL.q (.bool false) (by kernel_rfl) rfl (by kernel_rfl) (by kernel_rfl) ?_
  refine WL.nil ?_
  refine EX.then_code ?_
  refine CW.seq ?_
  refine CW.seq ?_
  refine CW.region ?_
  refine WL.q (.pointer (some ⟨p, 0, none⟩)) (by kernel_rfl) rfl (by kernel_rfl) (by kernel_rfl) ?_
  refine WL.q (.pointer (some ⟨p, 0, none⟩)) (by kernel_rfl) rfl (by kernel_rfl) (by kernel_rfl) ?_
  refine WL.q (.pointer (some ⟨p, 0, none⟩)) (by kernel_rfl) rfl (by kernel_rfl) (by kernel_rfl) ?_
  refine WL.q (.map (some bm)) (by kernel_rfl) rfl (by kernel_rfl) (q_load (off := 0) rfl (by kernel_rfl) (by kernel_rfl) (G.own _ _ T.root) (by kernel_rfl)) ?_
  refine WL.q (.int .i64 id0) (by kernel_rfl) rfl (by kernel_rfl) (by kernel_rfl) ?_
  refine WL.q (.tuple #[(.pointer (some ⟨n.b, 0, none⟩)), (.bool true)]) (by kernel_rfl) rfl (by kernel_rfl) (q_lookup (k := id0) true rfl mapT49 (by kernel_rfl) (by kernel_rfl) (G.own _ _ hb_) hm (by rw [hl]; rfl)) ?_
  refine WL.q (.tuple #[(.pointer (some ⟨n.b, 0, none⟩)), (.bool true)]) (by kernel_rfl) rfl (by kernel_rfl) (by kernel_rfl) ?_
  refine WL.q (.pointer (some ⟨n.b, 0, none⟩)) (by kernel_rfl) rfl (by kernel_rfl) (by kernel_rfl) ?_
  refine WL.q (.bool true) (by kernel_rfl) rfl (by kernel_rfl) (by kernel_rfl) ?_
  refine WL.q (.pointer (some ⟨n.b, 0, none⟩)) (by kernel_rfl) rfl (by kernel_rfl) (by kernel_rfl) ?_
  refine WL.q (.bool true) (by kernel_rfl) rfl (by kernel_rfl) (by kernel_rfl) ?_
  refine WL.nil ?_
  refine EX.then_code ?_
  refine CW.seq ?_
  refine CW.region ?_
  refine WL.q (.bool true) (by kernel_rfl) rfl (by kernel_rfl) (by kernel_rfl) ?_
  refine WL.q (.bool false) (by kernel_rfl) rfl (by kernel_rfl) (by kernel_rfl) ?_
  refine WL.nil ?_
  refine EX.then_code ?_
  refine CW.cond_f (by kernel_rfl) (by kernel_rfl) ?_
  refine CW.skip ?_
  refine EX.then_code ?_
  refine CW.seq ?_
  refine CW.region ?_
  refine WL.q (.slice none 0 0) (by kernel_rfl) rfl (by kernel_rfl) (by kernel_rfl) ?_
  refine WL.nil ?_
  refine EX.then_code ?_
  refine CW.seq ?_
  refine CW.block ?_
  refine CW.loop (β := Int × Nat × List Int × Option Addr × Nat) (fun x_ => [(0, (.pointer (some ⟨p, 0, none⟩))), (1, (.int .i64 x_.1)), (4, (.slice none 0 0)), (5, (.bool false)), (8, (.slice x_.2.2.2.1 x_.2.2.1.length x_.2.2.2.2))]) (fun x_ w_ => ∃ h_ Mout_, (PH.le h h_) ∧ (Wld K w_ h_ Mout_) ∧ (Own 3 intE M Mout_ x_.2.2.2.1 x_.2.2.2.2 x_.2.2.1) ∧ (PathUp row id0 x_.1 x_.2.1 x_.2.2.1)) (fun x_ => x_.2.1) ⟨id0, row.length + 1, [], none, 0⟩ ⟨(by kernel_rfl), (by kernel_rfl), (by kernel_rfl), (by kernel_rfl), (by kernel_rfl), trivial⟩ ⟨h, M, (PH.le_refl _), G, (Own.nil 3 intE M), (PathUp.start h0)⟩ ?_
  rintro ⟨id, n, out, ao, co⟩ w5 ⟨h5, Mout_5, l5, G5, oout5, hp⟩
  try dsimp only at *
  have hpl := hp.len
  obtain ⟨m, hmem, hmid⟩ := R.find hp.there
  have hlm : (ents ns).lookup id = some (.pointer (some ⟨m.b, 0, none⟩)) := by rw [← hmid]; exact ents_some T.ids hmem
  refine CW.seq ?_
  refine CW.seq ?_
  refine CW.region ?_
  refine WL.q (.int .i64 id) (by kernel_rfl) rfl (by kernel_rfl) (by kernel_rfl) ?_
  refine WL.q (.bool ((id : Int) != 0)) (by kernel_rfl) rfl (by kernel_rfl) (by kernel_rfl) ?_
  refine WL.nil ?_
  refine EX.then_code ?_
  refine CW.cond ((id : Int) != 0) (by kernel_rfl) (by kernel_rfl) (fun c6 => ?_) (fun c6 => ?_)
  ·
    skip
    have d7 := bne_true c6
    refine CW.skip ?_
    refine EX.then_code ?_
    refine CW.seq ?_
    refine CW.block ?_
    refine CW.region ?_
    refine WL.q (.slice ao out.length co) (by kernel_rfl) rfl (by kernel_rfl) (by kernel_rfl) ?_
    refine WL.q (.pointer (some ⟨p, 0, none⟩)) (by kernel_rfl) rfl (by kernel_rfl) (by kernel_rfl) ?_
    refine WL.q (.pointer (some ⟨p, 0, none⟩)) (by kernel_rfl) rfl (by kernel_rfl) (by kernel_rfl) ?_
    refine WL.q (.pointer (some ⟨p, 0, none⟩)) (by kernel_rfl) rfl (by kernel_rfl) (by kernel_rfl) ?_
    refine WL.q (.map (some bm)) (by kernel_rfl) rfl (by kernel_rfl) (q_load (off := 0) rfl (by kernel_rfl) (by kernel_rfl) (G5.own _ _ (oout5.le _ _ T.root)) (by kernel_rfl)) ?_
    refine WL.q (.int .i64 id) (by kernel_rfl) rfl (by kernel_rfl) (by kernel_rfl) ?_
    refine WL.q (.pointer (some ⟨m.b, 0, none⟩)) (by kernel_rfl) rfl (by kernel_rfl) (q_lookup (k := id) false rfl mapT49 (by kernel_rfl) (by kernel_rfl) (G5.own _ _ (oout5.le _ _ hb_)) hm (by rw [hlm]; rfl)) ?_
    refine WL.q (.pointer (some ⟨m.b, 0, none⟩)) (by kernel_rfl) rfl (by kernel_rfl) (by kernel_rfl) ?_
    refine WL.q (.pointer (some ⟨m.b, 1, none⟩)) (by kernel_rfl) rfl (by kernel_rfl) (by kernel_rfl) ?_
    refine WL.q (.int .i64 m.fact) (by kernel_rfl) rfl (by kernel_rfl) (q_load (off := 1) rfl (by kernel_rfl) (by kernel_rfl) (G5.own _ _ (oout5.le _ _ ((T.nodes _ hmem).1))) (by kernel_rfl)) ?_
    refine WL.new (ob := (.cells #[(.int .i64 m.fact)] 3)) G5 (by kernel_rfl) rfl (by kernel_rfl) (fun b_ => .slice (some ⟨b_, 0, none⟩) 1 1) (fun u_ => by kernel_rfl) ?_
    intro b8 w8 n8 i8 G8
    refine WL.append (e := 3) (bytes := 8) (cap := co) (c2 := 1) (M0 := M) (xs := out) (ys := ([m.fact])) G8 (PH.le_set _ n8) oout5 (PH.le_refl _) (RS.blk (E := intE) (xs := [m.fact]) (G8.own _ _ (PH.set_same _ _ _)) (by kernel_rfl)) rfl (by kernel_rfl) (by kernel_rfl) rfl (by kernel_rfl) (by kernel_rfl) (by kernel_rfl) (by first | (simp only [maxLen, List.length_append, List.length_cons, List.length_nil]; omega) | (simp only [maxLen]; omega)) (by first | omega | (simp only [List.length_append, List.length_cons, List.length_nil]; omega)) ?_
    intro a9 k9 w9 M9 G9 o9 z9
    refine WL.q (.slice a9 ((out ++ ([m.fact])).length) k9) (by kernel_rfl) rfl (by kernel_rfl) (by kernel_rfl) ?_
    refine WL.nil ?_
    refine EX.in_block ?_
    refine EX.then_code ?_
    refine CW.region ?_
    refine WL.q (.pointer (some ⟨p, 0, none⟩)) (by kernel_rfl) rfl (by kernel_rfl) (by kernel_rfl) ?_
    refine WL.q (.pointer (some ⟨p, 0, none⟩)) (by kernel_rfl) rfl (by kernel_rfl) (by kernel_rfl) ?_
    refine WL.q (.pointer (some ⟨p, 0, none⟩)) (by kernel_rfl) rfl (by kernel_rfl) (by kernel_rfl) ?_
    refine WL.q (.map (some bm)) (by kernel_rfl) rfl (by kernel_rfl) (q_load (off := 0) rfl (by kernel_rfl) (by kernel_rfl) (G9.own _ _ (o9.le _ _ T.root)) (by kernel_rfl)) ?_
    refine WL.q (.int .i64 id) (by kernel_rfl) rfl (by kernel_rfl) (by kernel_rfl) ?_
    refine WL.q (.pointer (some ⟨m.b, 0, none⟩)) (by kernel_rfl) rfl (by kernel_rfl) (q_lookup (k := id) false rfl mapT49 (by kernel_rfl) (by kernel_rfl) (G9.own _ _ (o9.le _ _ hb_)) hm (by rw [hlm]; rfl)) ?_
    refine WL.q (.pointer (some ⟨m.b, 0, none⟩)) (by kernel_rfl) rfl (by kernel_rfl) (by kernel_rfl) ?_
    refine WL.q (.pointer (some ⟨m.b, 0, none⟩)) (by kernel_rfl) rfl (by kernel_rfl) (by kernel_rfl) ?_
    refine WL.q (.int .i64 m.parent) (by kernel_rfl) rfl (by kernel_rfl) (q_load (off := 0) rfl (by kernel_rfl) (by kernel_rfl) (G9.own _ _ (o9.le _ _ ((T.nodes _ hmem).1))) (by kernel_rfl)) ?_
    refine WL.q (.int .i64 m.parent) (by kernel_rfl) rfl (by kernel_rfl) (by kernel_rfl) ?_
    refine WL.nil ?_
    have hmt : (⟨m.id, m.parent, m.fact⟩ : Tok) ∈ row := (R.node m hmem).resolve_left (by rw [hmid]; assumption)
    obtain ⟨hn1, hp2⟩ := hp.step R.wf (by assumption) hmt hmid
    exact EX.then_loop ⟨m.parent, n - 1, (out ++ ([m.fact])), a9, k9⟩ ⟨(by kernel_rfl), (by kernel_rfl), (by kernel_rfl), (by kernel_rfl), (by kernel_rfl), trivial⟩ ⟨h5, M9, l5, G9, o9, hp2⟩ (by first | omega | (dsimp only; omega))
  ·
    skip
    have d10 := bne_false c6
    refine CW.exit ?_
    refine EX.exit_then ?_
    refine EX.exit_then ?_
    refine EX.exit_here ?_
    refine EX.then_code ?_
    refine CW.seq ?_
    refine CW.region ?_
    refine WL.q (.slice ao out.length co) (by kernel_rfl) rfl (by kernel_rfl) (by kernel_rfl) ?_
    refine WL.call (by kernel_rfl) rfl (by kernel_rfl) (by kernel_rfl) (rev_spec G5 oout5 (by omega)) (RetM.elim ?_)
    rintro w11 h11 M11 _ l11 G11 ⟨rfl, o11⟩
    refine WL.nil ?_
    refine EX.then_code ?_
    refine CW.seq ?_
    refine CW.region ?_
    refine WL.q (.slice ao out.length co) (by kernel_rfl) rfl (by kernel_rfl) (by kernel_rfl) ?_
    refine WL.call (by kernel_rfl) rfl (by kernel_rfl) (by kernel_rfl) (clip_spec (a := ao) (m := out.length) (c := co) G11 (by have q_ := o11.cap_le; first | omega | (simp only [List.length_reverse] at q_; omega) | (simp at q_ ⊢; omega))) (Ret.elim ?_)
    rintro w12 h12 _ l12 G12 rfl
    refine WL.q (.slice ao out.length out.length) (by kernel_rfl) rfl (by kernel_rfl) (by kernel_rfl) ?_
    refine WL.q (.bool true) (by kernel_rfl) rfl (by kernel_rfl) (by kernel_rfl) ?_
    refine WL.nil ?_
    refine EX.then_code ?_
    refine CW.ret ?_
    refine EX.ret2 (v := (.slice ao out.length out.length)) (x := (.bool true)) rfl (by kernel_rfl) (by kernel_rfl) ?_
    have hz : id = 0 := by omega
    subst hz
    obtain ⟨h13, l13, G13, r13⟩ := o11.freeze G12
    have hd := hp.done
    exact Ret.mk (((l5.trans l11).trans l12).trans l13) G13 ⟨_, by rw [← hd, List.length_reverse], hd ▸ r13⟩
end Go.Proofs
