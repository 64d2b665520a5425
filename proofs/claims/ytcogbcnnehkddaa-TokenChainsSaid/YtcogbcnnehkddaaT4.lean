import Derived.Test.YtcogbcnnehkddaaT3
import Derived.Test.YtcogbcnnehkddaaDl
namespace Go.Proofs
open Go Go.Wk
/-- What 'under' does at the token id. -/
def UnderAt (K : Key) (p bm : Nat) (row : List Tok) (last id : Int) : Prop := ∀ ⦃w : World⦄ ⦃h M0 M : PH⦄ ⦃ns : List Nd⦄, Wld K w h M → TreeM M0 M p bm ns last →
  (∀ x, (x = id ∨ Blw row id x) → ∃ n ∈ ns, n.id = x ∧ n.kids = kidsOf row x) →
  Calls Try.prog 21 #[.pointer (some ⟨p, 0, none⟩), .int .i64 id] w (RetM K h fun _ M' v => ∃ a c out Mt, v = .slice a out.length c ∧ TreeM M0 Mt p bm (clr id (keep ns out)) last ∧ Own 3 intE Mt M' a c out ∧
    out.Nodup ∧ ∀ x, x ∈ out ↔ Blw row id x)

theorem under_step {row : List Tok} {last : Int} (wf : RowWf row last) (hrow : row.length ≤ 4000) {K : Key} {p bm : Nat} (m : Nat) (ih : ∀ id, (last - id).toNat < m → UnderAt K p bm row last id) (id : Int) (hm : (last - id).toNat < m + 1) :
    UnderAt K p bm row last id := by
  intro w h M0 M ns G T hex
  obtain ⟨n, hn, rfl, hkn⟩ := hex id (.inl rfl)
  have hkl := congrArg List.length hkn
  have hklr := kidsOf_len row n.id
  have T0 : TreeM M0 M p bm (keep ns []) last := by rw [keep_nil]; exact T
  obtain ⟨es, clk, hb, hm⟩ := T.map
  have hl := ents_some T.ids hn
  refine enter (l := [(.pointer (some ⟨p, 0, none⟩)), (.int .i64 n.id)]) Try.func21 rfl Try.ntmps21 (Nat.le_of_ble_eq_true rfl) ?_
  simp only [params]
  refine CW.seq ?_
  refine CW.region ?_
  refine WL.q (.slice none 0 0) (by kernel_rfl) rfl (by kernel_rfl) (by kernel_rfl) ?_
  refine WL.nil ?_
  refine EX.then_code ?_
  refine CW.seq ?_
  refine CW.region ?_
  refine WL.q (.slice none 0 0) (by kernel_rfl) rfl (by kernel_rfl) (by kernel_rfl) ?_
  refine WL.nil ?_
  refine EX.then_code ?_
  refine CW.seq ?_
  refine CW.seq ?_
  refine CW.region ?_
  refine WL.q (.pointer (some ⟨p, 0, none⟩)) (by kernel_rfl) rfl (by kernel_rfl) (by kernel_rfl) ?_
  refine WL.q (.pointer (some ⟨p, 0, none⟩)) (by kernel_rfl) rfl (by kernel_rfl) (by kernel_rfl) ?_
  refine WL.q (.pointer (some ⟨p, 0, none⟩)) (by kernel_rfl) rfl (by kernel_rfl) (by kernel_rfl) ?_
  refine WL.q (.map (some bm)) (by kernel_rfl) rfl (by kernel_rfl) (q_load (off := 0) rfl (by kernel_rfl) (by kernel_rfl) (G.own _ _ T.root) (by kernel_rfl)) ?_
  refine WL.q (.int .i64 n.id) (by kernel_rfl) rfl (by kernel_rfl) (by kernel_rfl) ?_
  refine WL.q (.pointer (some ⟨n.b, 0, none⟩)) (by kernel_rfl) rfl (by kernel_rfl) (q_lookup (k := n.id) false rfl mapT49 (by kernel_rfl) (by kernel_rfl) (G.own _ _ hb) hm (by rw [hl]; rfl)) ?_
  refine WL.q (.pointer (some ⟨n.b, 0, none⟩)) (by kernel_rfl) rfl (by kernel_rfl) (by kernel_rfl) ?_
  refine WL.q (.pointer (some ⟨n.b, 2, none⟩)) (by kernel_rfl) rfl (by kernel_rfl) (by kernel_rfl) ?_
  refine WL.q (.slice n.ka n.kids.length n.kc) (by kernel_rfl) rfl (by kernel_rfl) (q_load (off := 2) rfl (by kernel_rfl) (by kernel_rfl) (G.own _ _ ((T.nodes _ hn).1)) (by kernel_rfl)) ?_
  refine WL.q (.int .i64 (n.kids.length : Int)) (by kernel_rfl) rfl (by kernel_rfl) (by kernel_rfl) ?_
  refine WL.q (.int .i64 0) (by kernel_rfl) rfl (by kernel_rfl) (by kernel_rfl) ?_
  refine WL.nil ?_
  refine EX.then_code ?_
  refine CW.block ?_
  refine CW.loop (β := Nat × List Int × Option Addr × Nat) (fun x_ => [(0, (.pointer (some ⟨p, 0, none⟩))), (1, (.int .i64 n.id)), (4, (.slice none 0 0)), (5, (.slice x_.2.2.1 x_.2.1.length x_.2.2.2)), (16, (.slice n.ka n.kids.length n.kc)), (17, (.int .i64 (n.kids.length : Int))), (18, (.int .i64 (x_.1 : Int)))]) (fun x_ w_ => ∃ h_ Mt_ Mout_, (PH.le h h_) ∧ (Wld K w_ h_ Mout_) ∧ (TreeM M0 Mt_ p bm (keep ns x_.2.1) last) ∧ (Own 3 intE Mt_ Mout_ x_.2.2.1 x_.2.2.2 x_.2.1) ∧ (x_.1 ≤ (kidsOf row n.id).length) ∧ (UnderUp row n.id x_.1 x_.2.1)) (fun x_ => n.kids.length - x_.1) ⟨0, [], none, 0⟩ ⟨(by kernel_rfl), (by kernel_rfl), (by kernel_rfl), (by kernel_rfl), (by kernel_rfl), (by kernel_rfl), (lk_int (x := 0) (by kernel_rfl) (by first | omega | (dsimp only; done) | (dsimp only; omega))), trivial⟩ ⟨h, M, M, (PH.le_refl _), G, T0, (Own.nil 3 intE M), (by omega), (UnderUp.start row n.id)⟩ ?_
  rintro ⟨j, out, ao, co⟩ w2 ⟨h2, Mt2, Mout_2, l2, G2, T2, oout2, hj, u⟩
  try dsimp only at *
      have hul := u.len wf hj
      have hn1 : n ∈ keep ns out := List.mem_filter.2 ⟨hn, by simpa using u.self wf hj⟩
      obtain ⟨es3, clk3, hb3, hm3⟩ := T2.map
      have hl4 := ents_some T2.ids hn1
  refine CW.seq ?_
  refine CW.region ?_
  refine WL.q (.bool (decide ((j : Int) < (n.kids.length : Int)))) (by kernel_rfl) rfl (by kernel_rfl) (by kernel_rfl) ?_
  refine WL.nil ?_
  refine EX.then_code ?_
  refine CW.seq ?_
  refine CW.cond (decide ((j : Int) < (n.kids.length : Int))) (by kernel_rfl) (by kernel_rfl) (fun c5 => ?_) (fun c5 => ?_)
  ·
    skip
    have d6 := of_decide_eq_true c5
    refine CW.skip ?_
    refine EX.then_code ?_
    refine CW.seq ?_
    refine CW.block ?_
    refine CW.seq ?_
    refine CW.region ?_
    refine WL.q (eptr n.ka (j * intE.sz)) (by kernel_rfl) rfl (by kernel_rfl) (q_indexAddr (i := j) (E := intE) (xs := n.kids) (e := 3) (c := n.kc) (k := .i64) (m := n.kids.length) rfl rfl (by kernel_rfl) (by kernel_rfl) (by kernel_rfl) ((T2.kids hn1).1.reads.mono (PH.le.trans oout2.le G2.own)) (by omega)) ?_
    refine WL.q (.int .i64 (n.kids.getD j intE.dflt)) (by kernel_rfl) rfl (by kernel_rfl) (q_load_e (i := j) (k := 0) (E := intE) rfl (by kernel_rfl) (by kernel_rfl) ((T2.kids hn1).1.reads.mono (PH.le.trans oout2.le G2.own)) (by omega) (by decide) (by kernel_rfl)) ?_
    refine WL.q (.int .i64 (n.kids.getD j intE.dflt)) (by kernel_rfl) rfl (by kernel_rfl) (by kernel_rfl) ?_
    refine WL.nil ?_
    refine EX.then_code ?_
    refine CW.seq ?_
    refine CW.region ?_
    refine WL.q (.slice ao out.length co) (by kernel_rfl) rfl (by kernel_rfl) (by kernel_rfl) ?_
    refine WL.q (.int .i64 (n.kids.getD j intE.dflt)) (by kernel_rfl) rfl (by kernel_rfl) (by kernel_rfl) ?_
    refine WL.new (ob := (.cells #[(.int .i64 (n.kids.getD j intE.dflt))] 3)) G2 (by kernel_rfl) rfl (by kernel_rfl) (fun b_ => .slice (some ⟨b_, 0, none⟩) 1 1) (fun u_ => by kernel_rfl) ?_
    intro b7 w7 n7 i7 G7
    refine WL.append (e := 3) (bytes := 8) (cap := co) (c2 := 1) (M0 := Mt2) (xs := out) (ys := ([(n.kids.getD j intE.dflt)])) G7 (PH.le_set _ n7) oout2 (PH.le_refl _) (RS.blk (E := intE) (xs := [(n.kids.getD j intE.dflt)]) (G7.own _ _ (PH.set_same _ _ _)) (by kernel_rfl)) rfl (by kernel_rfl) (by kernel_rfl) rfl (by kernel_rfl) (by kernel_rfl) (by kernel_rfl) (by first | (simp only [maxLen, List.length_append, List.length_cons, List.length_nil]; omega) | (simp only [maxLen]; omega)) (by first | omega | (simp only [List.length_append, List.length_cons, List.length_nil]; omega)) ?_
    intro a8 k8 w8 M8 G8 o8 z8
    refine WL.q (.slice a8 ((out ++ ([(n.kids.getD j intE.dflt)])).length) k8) (by kernel_rfl) rfl (by kernel_rfl) (by kernel_rfl) ?_
    refine WL.nil ?_
    refine EX.then_code ?_
    refine CW.seq ?_
    refine CW.region ?_
    refine WL.q (.slice a8 ((out ++ ([(n.kids.getD j intE.dflt)])).length) k8) (by kernel_rfl) rfl (by kernel_rfl) (by kernel_rfl) ?_
    refine WL.q (.pointer (some ⟨p, 0, none⟩)) (by kernel_rfl) rfl (by kernel_rfl) (by kernel_rfl) ?_
    refine WL.q (.int .i64 (n.kids.getD j intE.dflt)) (by kernel_rfl) rfl (by kernel_rfl) (by kernel_rfl) ?_
    obtain ⟨N9, o9, T9⟩ := T2.lift o8
    have hk := UnderUp.kid wf (a := n.id) (j := j) (by omega)
    have hkk : n.kids.getD j intE.dflt = (kidsOf row n.id).getD j intE.dflt := by rw [hkn]
    refine WL.call (by kernel_rfl) rfl (by kernel_rfl) (by kernel_rfl) (ih (n.kids.getD j intE.dflt) (by omega) G8 T9 (hkk ▸ u.pre wf (by omega) hex)) (RetM.elim ?_)
    rintro w10 h10 M10 _ l10 G10 ⟨a10, k10, r, Mt10, rfl, T10, o10, hrn, hrm⟩
    rw [hkk] at hrm
    have hrl := Blw.len hrn hrm
    obtain ⟨h11, l11, G11, r11⟩ := o10.freeze G10
    obtain ⟨N12, T12, o12⟩ := TreeM.sink o9 T10
    obtain ⟨es13, clk13, hb13, hm13⟩ := T12.map
    refine WL.append (e := 3) (bytes := 8) (cap := k8) (c2 := k10) (M0 := N12) (xs := (out ++ ([(n.kids.getD j intE.dflt)]))) (ys := r) G11 (PH.le_refl _) o12 (PH.le_refl _) (r11.mono ((PH.le_refl _).trans G11.imm)) rfl (by kernel_rfl) (by kernel_rfl) rfl (by kernel_rfl) (by kernel_rfl) (by kernel_rfl) (by first | (simp only [maxLen, List.length_append, List.length_cons, List.length_nil]; omega) | (simp only [maxLen]; omega)) (by first | omega | (simp only [List.length_append, List.length_cons, List.length_nil]; omega)) ?_
    intro a14 k14 w14 M14 G14 o14 z14
    refine WL.q (.slice a14 (((out ++ ([(n.kids.getD j intE.dflt)])) ++ r).length) k14) (by kernel_rfl) rfl (by kernel_rfl) (by kernel_rfl) ?_
    refine WL.nil ?_
    refine EX.then_code ?_
    refine CW.region ?_
    refine WL.q (.pointer (some ⟨p, 0, none⟩)) (by kernel_rfl) rfl (by kernel_rfl) (by kernel_rfl) ?_
    refine WL.q (.pointer (some ⟨p, 0, none⟩)) (by kernel_rfl) rfl (by kernel_rfl) (by kernel_rfl) ?_
    refine WL.q (.pointer (some ⟨p, 0, none⟩)) (by kernel_rfl) rfl (by kernel_rfl) (by kernel_rfl) ?_
    refine WL.q (.map (some bm)) (by kernel_rfl) rfl (by kernel_rfl) (q_load (off := 0) rfl (by kernel_rfl) (by kernel_rfl) (G14.own _ _ (o14.le _ _ T12.root)) (by kernel_rfl)) ?_
    refine WL.q (.int .i64 (n.kids.getD j intE.dflt)) (by kernel_rfl) rfl (by kernel_rfl) (by kernel_rfl) ?_
    obtain ⟨N15, o15, T15⟩ := T12.lift o14
    obtain ⟨es16, clk16, hb16, hm16⟩ := T15.map
    refine WL.delete (k := ((n.kids.getD j intE.dflt) : Int)) G14 hb16 hm16 rfl mapT49 (by kernel_rfl) (by kernel_rfl) (by kernel_rfl) rfl (by kernel_rfl) ?_
    intro w17 es' G17 hm'
    obtain ⟨M17, hle17, T17⟩ := T15.del hm'
    rw [keep_step] at T17
    obtain ⟨N18, T18, o18⟩ := TreeM.sink o15 T17
    refine WL.nil ?_
    refine EX.in_block ?_
    refine EX.then_code ?_
    refine CW.region ?_
    refine WL.q (.int .i64 ((j + 1 : Nat) : Int)) (by kernel_rfl) rfl (by kernel_rfl) (q_int (x := IntKind.i64.wrap ((j : Int) + 1)) (by kernel_rfl) (wrap_to (by omega) (by omega) (by omega))) ?_
    refine WL.q (.int .i64 ((j + 1 : Nat) : Int)) (by kernel_rfl) rfl (by kernel_rfl) (by kernel_rfl) ?_
    refine WL.nil ?_
    have u2 := u.step wf (by omega) hrn hrm
    rw [← hkk] at u2
    exact EX.then_loop ⟨j + 1, ((out ++ [n.kids.getD j intE.dflt]) ++ r), a14, k14⟩ ⟨(by kernel_rfl), (by kernel_rfl), (by kernel_rfl), (by kernel_rfl), (by kernel_rfl), (by kernel_rfl), (lk_int (x := ((j + 1 : Nat) : Int)) (by kernel_rfl) (by first | omega | (dsimp only; done) | (dsimp only; omega))), trivial⟩ ⟨h11, N18, M17, ((l2.trans l10).trans l11), (G17.drop hle17), T18, o18, (by omega), u2⟩ (by first | omega | (dsimp only; omega))
  ·
    skip
    have d19 := of_decide_eq_false c5
    refine CW.exit ?_
    refine EX.exit_then ?_
    refine EX.exit_then ?_
    refine EX.exit_here ?_
    refine EX.then_code ?_
    refine CW.seq ?_
    refine CW.region ?_
    refine WL.q (.pointer (some ⟨p, 0, none⟩)) (by kernel_rfl) rfl (by kernel_rfl) (by kernel_rfl) ?_
    refine WL.q (.pointer (some ⟨p, 0, none⟩)) (by kernel_rfl) rfl (by kernel_rfl) (by kernel_rfl) ?_
    refine WL.q (.pointer (some ⟨p, 0, none⟩)) (by kernel_rfl) rfl (by kernel_rfl) (by kernel_rfl) ?_
    refine WL.q (.map (some bm)) (by kernel_rfl) rfl (by kernel_rfl) (q_load (off := 0) rfl (by kernel_rfl) (by kernel_rfl) (G2.own _ _ (oout2.le _ _ T2.root)) (by kernel_rfl)) ?_
    refine WL.q (.int .i64 n.id) (by kernel_rfl) rfl (by kernel_rfl) (by kernel_rfl) ?_
    refine WL.q (.pointer (some ⟨n.b, 0, none⟩)) (by kernel_rfl) rfl (by kernel_rfl) (q_lookup (k := n.id) false rfl mapT49 (by kernel_rfl) (by kernel_rfl) (G2.own _ _ (oout2.le _ _ hb3)) hm3 (by rw [hl4]; rfl)) ?_
    refine WL.q (.pointer (some ⟨n.b, 0, none⟩)) (by kernel_rfl) rfl (by kernel_rfl) (by kernel_rfl) ?_
    refine WL.q (.pointer (some ⟨n.b, 2, none⟩)) (by kernel_rfl) rfl (by kernel_rfl) (by kernel_rfl) ?_
    obtain ⟨N20, o20, T20⟩ := T2.lift oout2
    refine WL.store #[(.int .i64 n.parent), (.int .i64 n.fact), (.slice none 0 0)] (et := 48) (v := (.slice none 0 0)) (vs := [(.slice none 0 0)]) (off := 2) G2 (T20.nodes _ hn1).1 rfl (by kernel_rfl) (by kernel_rfl) rfl (by kernel_rfl) (by kernel_rfl) (by kernel_rfl) (by kernel_rfl) (by simp [Value.oneCell']) (by simp) (by kernel_rfl) ?_
    intro w21 G21
    obtain ⟨M22, hle22, T22⟩ := T20.clear hn1
    obtain ⟨N23, T23, o23⟩ := TreeM.sink o20 T22
    refine WL.nil ?_
    refine EX.then_code ?_
    refine CW.seq ?_
    refine CW.region ?_
    refine WL.q (.slice ao out.length co) (by kernel_rfl) rfl (by kernel_rfl) (by kernel_rfl) ?_
    refine WL.q (.slice ao out.length co) (by kernel_rfl) rfl (by kernel_rfl) (by kernel_rfl) ?_
    refine WL.nil ?_
    refine EX.then_code ?_
    refine CW.ret ?_
    refine EX.ret1 (v := (.slice ao out.length co)) rfl (by kernel_rfl) ?_
    exact RetM.mk l2 (G21.drop hle22) ⟨_, _, _, _, rfl, T23, o23, u.nd, u.done wf (by omega)⟩

theorem under_spec {row : List Tok} {last : Int} (wf : RowWf row last) (hrow : row.length ≤ 4000) {K : Key} {p bm : Nat} (id : Int) : UnderAt K p bm row last id := by
  have key : ∀ m id, (last - id).toNat < m → UnderAt K p bm row last id := by
    intro m
    induction m with
    | zero => intro id h; omega
    | succ m ih => exact fun id h => under_step wf hrow m ih id h
  exact key _ id (Nat.lt_succ_self _)
end Go.Proofs
