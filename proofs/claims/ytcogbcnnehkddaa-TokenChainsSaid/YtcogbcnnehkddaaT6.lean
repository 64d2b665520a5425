import Derived.Test.YtcogbcnnehkddaaT5
namespace Go.Proofs
open Go Go.Wk
theorem lenT_spec {K : Key} {w : World} {h M0 M : PH} (G : Wld K w h M) {p : Nat} {row : List Tok} {last : Int} (A : TreeA M0 M p row last) (hrow : row.length ≤ 4000) : Calls Try.prog 13 #[.pointer (some ⟨p, 0, none⟩)] w (Ret K h M fun _ v => v = .int .i64 (row.length : Int)) := by
  obtain ⟨bm, ns, T, R⟩ := A
  have := R.len
  have e : (row.length : Int) = (ns.length : Int) - 1 := by omega
  rw [e]
  exact len_spec G T (by omega)

theorem kidsT_spec {K : Key} {w : World} {h M0 M : PH} (G : Wld K w h M) {p : Nat} {row : List Tok} {last : Int} (A : TreeA M0 M p row last) (hrow : row.length ≤ 4000) (id : Int) : Calls Try.prog 16 #[.pointer (some ⟨p, 0, none⟩), .int .i64 id] w (Ret K h M fun h' v => ∃ a, v = .slice a (kidsOf row id).length (kidsOf row id).length ∧ RS h' intE a (kidsOf row id)) := by
  obtain ⟨bm, ns, T, R⟩ := A
  by_cases hi : id = 0 ∨ 0 ≤ atF row id
  · obtain ⟨n, hn, rfl⟩ := R.find hi
    have hk := R.kids n hn
    have hl := kidsOf_len row n.id
    rw [← hk] at hl ⊢
    exact kids_yes G T hn (by omega)
  · rw [not_or] at hi
    rw [kidsOf_none R.wf hi.1 (by omega)]
    refine (kids_no G T (R.lacks hi.1 (by omega))).mono (RetM.mono fun h' M' v hl hΦ => ⟨hΦ.1, none, hΦ.2, RS.nil _ _ _⟩)

theorem pathT_spec {K : Key} {w : World} {h M0 M : PH} (G : Wld K w h M) {p : Nat} {row : List Tok} {last : Int} (A : TreeA M0 M p row last) (hrow : row.length ≤ 4000) (id : Int) : Calls Try.prog 14 #[.pointer (some ⟨p, 0, none⟩), .int .i64 id] w (Ret K h M fun h' v => ∃ a, v = .tuple #[.slice a (pathN row (row.length + 1) id).length (pathN row (row.length + 1) id).length, .bool (decide (id = 0 ∨ 0 ≤ atF row id))] ∧ RS h' intE a (pathN row (row.length + 1) id)) := by
  obtain ⟨bm, ns, T, R⟩ := A
  by_cases hi : id = 0 ∨ 0 ≤ atF row id
  · rw [decide_eq_true hi]
    exact path_yes G T R hi (by omega)
  · rw [decide_eq_false hi]
    rw [not_or] at hi
    rw [pathN_none hi.1 (by omega)]
    refine (path_no G T (R.lacks hi.1 (by omega))).mono (RetM.mono fun h' M' v hl hΦ => ⟨hΦ.1, none, hΦ.2, RS.nil _ _ _⟩)

theorem addT_yes {K : Key} {w : World} {h M0 M : PH} (G : Wld K w h M) {p : Nat} {row : List Tok} {last : Int} (A : TreeA M0 M p row last) (hrow : row.length ≤ 3999) (h0 : 0 ≤ last) (h1 : last ≤ 100000) (par fact : Int) (hi : par = 0 ∨ 0 ≤ atF row par) : Calls Try.prog 7 #[.pointer (some ⟨p, 0, none⟩), .int .i64 par, .int .i64 fact] w (RetM K h fun _ M' v =>
    v = .tuple #[.int .i64 (last + 1), .int .i64 0] ∧ TreeA M0 M' p (row ++ [⟨last + 1, par, fact⟩]) (last + 1)) := by
  obtain ⟨bm, ns, T, R⟩ := A
  obtain ⟨n, hn, rfl⟩ := R.find hi
  obtain ⟨l, r, rfl⟩ := List.append_of_mem hn
  exact add_yes G T R h0 (by omega) (by omega)

theorem addT_no {K : Key} {w : World} {h M0 M : PH} (G : Wld K w h M) {p : Nat} {row : List Tok} {last : Int} (A : TreeA M0 M p row last) (hrow : row.length ≤ 3999) (par fact : Int) (hi : ¬ (par = 0 ∨ 0 ≤ atF row par)) : Calls Try.prog 7 #[.pointer (some ⟨p, 0, none⟩), .int .i64 par, .int .i64 fact] w (RetM K h fun _ M' v =>
    v = .tuple #[.int .i64 0, .int .i64 5] ∧ TreeA M0 M' p row last) := by
  obtain ⟨bm, ns, T, R⟩ := A
  rw [not_or] at hi
  exact (add_no G T (R.lacks hi.1 (by omega))).mono (RetM.mono fun h' M' v hl hΦ => ⟨hΦ.2, by rw [hΦ.1]; exact ⟨bm, ns, T, R⟩⟩)

theorem newT_spec {K : Key} {w : World} {h M : PH} (G : Wld K w h M) : Calls Try.prog 6 #[] w (RetM K h fun _ M' v => ∃ p, v = .pointer (some ⟨p, 0, none⟩) ∧ TreeA M M' p [] 0) :=
  (new_spec G).mono (RetM.mono fun h' M' v hl ⟨p, bm, b, e, T⟩ => ⟨p, e, bm, _, T, Rel.empty b⟩)

theorem cutT_spec {K : Key} {w : World} {h M0 M : PH} (G : Wld K w h M) {p : Nat} {row : List Tok} {last : Int} (A : TreeA M0 M p row last) (hrow : row.length ≤ 4000) (id : Int) : Calls Try.prog 12 #[.pointer (some ⟨p, 0, none⟩), .int .i64 id] w (RetM K h fun h' M' v =>
    ∃ a, v = .slice a (idsF row [id]).length (idsF row [id]).length ∧ RS h' intE a (idsF row [id]) ∧ TreeA M0 M' p (cutF row [id]) last) := by
  obtain ⟨bm, ns, T, R⟩ := A
  by_cases hi : id = 0 ∨ 0 ≤ atF row id
  · obtain ⟨n, hn, rfl⟩ := R.find hi
    exact cutT_yes G T R hrow hn
  · rw [not_or] at hi
    obtain ⟨e1, e2⟩ := cut_none R.wf hi.1 (fun t ht e => by have := has_iff.2 ⟨t, ht, e⟩; omega)
    rw [e1, e2]
    exact (cutT_no G T (R.lacks hi.1 (by omega))).mono (RetM.mono fun h' M' v hl hΦ => ⟨none, hΦ.2, RS.nil _ _ _, by rw [hΦ.1]; exact ⟨bm, ns, T, R⟩⟩)

theorem dropT_spec {K : Key} {w : World} {h M0 M : PH} (G : Wld K w h M) {p : Nat} {row : List Tok} {last : Int} (A : TreeA M0 M p row last) (hrow : row.length ≤ 4000) (hlast : last ≤ 100000) (fact : Int) :
    Calls Try.prog 11 #[.pointer (some ⟨p, 0, none⟩), .int .i64 fact] w (RetM K h fun h' M' v => ∃ a, v = .slice a (idsF row (factsOf row fact)).length (idsF row (factsOf row fact)).length ∧
      RS h' intE a (idsF row (factsOf row fact)) ∧ TreeA M0 M' p (cutF row (factsOf row fact)) last) := by
  obtain ⟨bm, ns, T, R⟩ := A
  have wf := R.wf
  obtain ⟨es, clk, hb, hm⟩ := T.map
  have hrange := R.range hlast
  refine enter (l := [(.pointer (some ⟨p, 0, none⟩)), (.int .i64 fact)]) Try.func11 rfl Try.ntmps11 (Nat.le_of_ble_eq_true rfl) ?_
  simp only [params]
  refine CW.seq ?_
  refine CW.region ?_
  refine WL.q (.slice none 0 0) (by kernel_rfl) rfl (by kernel_rfl) (by kernel_rfl) ?_
  refine WL.nil ?_
  refine EX.then_code ?_
  refine CW.seq ?_
  refine CW.region ?_
  refine WL.q (.slice none 0 0) (by kernel_rfl) rfl (by kernel_rfl) (by kernel_rfl) ?_
  refine WL.nil ?_
  refine EX.then_code ?_
  refine CW.seq ?_
  refine CW.seq ?_
  refine CW.region ?_
  refine WL.q (.pointer (some ⟨p, 0, none⟩)) (by kernel_rfl) rfl (by kernel_rfl) (by kernel_rfl) ?_
  refine WL.q (.pointer (some ⟨p, 0, none⟩)) (by kernel_rfl) rfl (by kernel_rfl) (by kernel_rfl) ?_
  refine WL.q (.pointer (some ⟨p, 0, none⟩)) (by kernel_rfl) rfl (by kernel_rfl) (by kernel_rfl) ?_
  refine WL.q (.map (some bm)) (by kernel_rfl) rfl (by kernel_rfl) (q_load (off := 0) rfl (by kernel_rfl) (by kernel_rfl) (G.own _ _ T.root) (by kernel_rfl)) ?_
  refine WL.call (by kernel_rfl) rfl (by kernel_rfl) (by kernel_rfl) (keys_spec G bm) (Ret.elim ?_)
  rintro w1 h1 _ l1 G1 ⟨b1, rfl, hbox⟩
  refine WL.call (by kernel_rfl) rfl (by kernel_rfl) (by kernel_rfl) (sorted_spec G1 (G1.imm _ _ ((PH.le_refl _) _ _ hbox)) (G1.own _ _ hb) hm (by simp [ents]; have := R.len; omega) hrange) (RetM.elim ?_)
  rintro w2 h2 M2 _ l2 G2 ⟨aks, cks, rfl, o2⟩
  obtain ⟨ks, hks⟩ : ∃ ks, ks = sortInts ((ents ns).map (·.1)) := ⟨_, rfl⟩
  rw [← hks] at o2 ⊢
  obtain ⟨h3, l3, G3, r3⟩ := o2.freeze G2
  have hkl : ks.length ≤ 4001 := by rw [hks, sortInts_len]; simp [ents]; have := R.len; omega
  have hka : ∀ t ∈ row, t.id ∈ ks := fun t ht => by rw [hks]; exact R.key ht
  obtain ⟨u0, e0⟩ := DropUp.start wf fact ks
  have A0 : TreeA M0 M p (cutF row (hits row fact (ks.take 0))) last := by rw [e0]; exact ⟨bm, ns, T, R⟩
  refine WL.q (.int .i64 (ks.length : Int)) (by kernel_rfl) rfl (by kernel_rfl) (by kernel_rfl) ?_
  refine WL.q (.int .i64 0) (by kernel_rfl) rfl (by kernel_rfl) (by kernel_rfl) ?_
  refine WL.nil ?_
  refine EX.then_code ?_
  refine CW.block ?_
  refine CW.loop (β := Nat × List Int × Option Addr × Nat) (fun x_ => [(0, (.pointer (some ⟨p, 0, none⟩))), (1, (.int .i64 fact)), (4, (.slice none 0 0)), (5, (.slice x_.2.2.1 x_.2.1.length x_.2.2.2)), (15, (.slice aks ks.length cks)), (16, (.int .i64 (ks.length : Int))), (17, (.int .i64 (x_.1 : Int)))]) (fun x_ w_ => ∃ h_ Mt_ Mout_, (PH.le h3 h_) ∧ (Wld K w_ h_ Mout_) ∧ (TreeA M0 Mt_ p (cutF row (hits row fact (ks.take x_.1))) last) ∧ (Own 3 intE Mt_ Mout_ x_.2.2.1 x_.2.2.2 x_.2.1) ∧ (x_.1 ≤ ks.length) ∧ (DropUp row fact ks x_.1 x_.2.1)) (fun x_ => ks.length - x_.1) ⟨0, [], none, 0⟩ ⟨(by kernel_rfl), (by kernel_rfl), (by kernel_rfl), (by kernel_rfl), (by kernel_rfl), (by kernel_rfl), (lk_int (x := 0) (by kernel_rfl) (by first | omega | (dsimp only; done) | (dsimp only; omega))), trivial⟩ ⟨h3, M, M, (PH.le_refl _), G3, A0, (Own.nil 3 intE M), (by first | omega | (dsimp only [List.length_nil, List.length_append, List.length_cons]; omega)), u0⟩ ?_
  rintro ⟨j, out, ao, co⟩ w4 ⟨h4, Mt4, Mout_4, l4, G4, A4, oout4, hj, u⟩
  try dsimp only at *
      have hul := u.len
      have hwj := cutF_wf wf (hits row fact (ks.take j))
      obtain ⟨bm5, ns5, T5, R5⟩ := id A4
      obtain ⟨es6, clk6, hb6, hm6⟩ := T5.map
  refine CW.seq ?_
  refine CW.region ?_
  refine WL.q (.bool (decide ((j : Int) < (ks.length : Int)))) (by kernel_rfl) rfl (by kernel_rfl) (by kernel_rfl) ?_
  refine WL.nil ?_
  refine EX.then_code ?_
  refine CW.seq ?_
  refine CW.cond (decide ((j : Int) < (ks.length : Int))) (by kernel_rfl) (by kernel_rfl) (fun c7 => ?_) (fun c7 => ?_)
  ·
    skip
    have d8 := of_decide_eq_true c7
    refine CW.skip ?_
    refine EX.then_code ?_
    refine CW.seq ?_
    refine CW.block ?_
    refine CW.seq ?_
    refine CW.region ?_
    refine WL.q (eptr aks (j * intE.sz)) (by kernel_rfl) rfl (by kernel_rfl) (q_indexAddr (i := j) (E := intE) (xs := ks) (e := 3) (c := cks) (k := .i64) (m := ks.length) rfl rfl (by kernel_rfl) (by kernel_rfl) (by kernel_rfl) (r3.mono (l4.trans G4.imm)) (by omega)) ?_
    refine WL.q (.int .i64 (ks.getD j intE.dflt)) (by kernel_rfl) rfl (by kernel_rfl) (q_load_e (i := j) (k := 0) (E := intE) rfl (by kernel_rfl) (by kernel_rfl) (r3.mono (l4.trans G4.imm)) (by omega) (by decide) (by kernel_rfl)) ?_
    refine WL.q (.int .i64 (ks.getD j intE.dflt)) (by kernel_rfl) rfl (by kernel_rfl) (by kernel_rfl) ?_
    refine WL.nil ?_
    refine EX.then_code ?_
    refine CW.seq ?_
    refine CW.region ?_
    refine WL.q (.pointer (some ⟨p, 0, none⟩)) (by kernel_rfl) rfl (by kernel_rfl) (by kernel_rfl) ?_
    refine WL.q (.pointer (some ⟨p, 0, none⟩)) (by kernel_rfl) rfl (by kernel_rfl) (by kernel_rfl) ?_
    refine WL.q (.pointer (some ⟨p, 0, none⟩)) (by kernel_rfl) rfl (by kernel_rfl) (by kernel_rfl) ?_
    refine WL.q (.map (some bm5)) (by kernel_rfl) rfl (by kernel_rfl) (q_load (off := 0) rfl (by kernel_rfl) (by kernel_rfl) (G4.own _ _ (oout4.le _ _ T5.root)) (by kernel_rfl)) ?_
    refine WL.q (.int .i64 (ks.getD j intE.dflt)) (by kernel_rfl) rfl (by kernel_rfl) (by kernel_rfl) ?_
    rcases Classical.em ((ks.getD j intE.dflt) = 0 ∨ 0 ≤ atF (cutF row (hits row fact (ks.take j))) (ks.getD j intE.dflt)) with hin | hin
    ·
      skip
      obtain ⟨n, hn, hnid⟩ := R5.find hin
      have hl : (ents ns5).lookup (ks.getD j intE.dflt) = some (.pointer (some ⟨n.b, 0, none⟩)) := by rw [← hnid]; exact ents_some T5.ids hn
      refine WL.q (.tuple #[(.pointer (some ⟨n.b, 0, none⟩)), (.bool true)]) (by kernel_rfl) rfl (by kernel_rfl) (q_lookup (k := (ks.getD j intE.dflt)) true rfl mapT49 (by kernel_rfl) (by kernel_rfl) (G4.own _ _ (oout4.le _ _ hb6)) hm6 (by rw [hl]; rfl)) ?_
      refine WL.q (.tuple #[(.pointer (some ⟨n.b, 0, none⟩)), (.bool true)]) (by kernel_rfl) rfl (by kernel_rfl) (by kernel_rfl) ?_
      refine WL.q (.pointer (some ⟨n.b, 0, none⟩)) (by kernel_rfl) rfl (by kernel_rfl) (by kernel_rfl) ?_
      refine WL.q (.bool true) (by kernel_rfl) rfl (by kernel_rfl) (by kernel_rfl) ?_
      refine WL.q (.pointer (some ⟨n.b, 0, none⟩)) (by kernel_rfl) rfl (by kernel_rfl) (by kernel_rfl) ?_
      refine WL.q (.bool true) (by kernel_rfl) rfl (by kernel_rfl) (by kernel_rfl) ?_
      refine WL.nil ?_
      refine EX.then_code ?_
      refine CW.seq ?_
      refine CW.region ?_
      refine WL.q (.bool true) (by kernel_rfl) rfl (by kernel_rfl) (by kernel_rfl) ?_
      refine WL.q (.bool true) (by kernel_rfl) rfl (by kernel_rfl) (by kernel_rfl) ?_
      refine WL.q (.int .i64 (ks.getD j intE.dflt)) (by kernel_rfl) rfl (by kernel_rfl) (by kernel_rfl) ?_
      refine WL.q (.bool (((ks.getD j intE.dflt) : Int) != 0)) (by kernel_rfl) rfl (by kernel_rfl) (by kernel_rfl) ?_
      refine WL.q (.bool (((ks.getD j intE.dflt) : Int) != 0)) (by kernel_rfl) rfl (by kernel_rfl) (by kernel_rfl) ?_
      refine WL.q (.bool (((ks.getD j intE.dflt) : Int) != 0)) (by kernel_rfl) rfl (by kernel_rfl) (by kernel_rfl) ?_
      rcases bool_cases (((ks.getD j intE.dflt) : Int) != 0) with c9 | c9
      ·
        skip
        have d10 := bne_true c9
        refine WL.know 35 (.bool true) (x := .bool (((ks.getD j intE.dflt) : Int) != 0)) (by kernel_rfl) (congrArg Value.bool c9) ?_
        refine WL.q (.pointer (some ⟨n.b, 0, none⟩)) (by kernel_rfl) rfl (by kernel_rfl) (by kernel_rfl) ?_
        refine WL.q (.pointer (some ⟨n.b, 0, none⟩)) (by kernel_rfl) rfl (by kernel_rfl) (by kernel_rfl) ?_
        refine WL.q (.pointer (some ⟨n.b, 1, none⟩)) (by kernel_rfl) rfl (by kernel_rfl) (by kernel_rfl) ?_
        refine WL.q (.int .i64 n.fact) (by kernel_rfl) rfl (by kernel_rfl) (q_load (off := 1) rfl (by kernel_rfl) (by kernel_rfl) (G4.own _ _ (oout4.le _ _ ((T5.nodes _ hn).1))) (by kernel_rfl)) ?_
        refine WL.q (.int .i64 fact) (by kernel_rfl) rfl (by kernel_rfl) (by kernel_rfl) ?_
        refine WL.q (.bool ((n.fact : Int) == fact)) (by kernel_rfl) rfl (by kernel_rfl) (by kernel_rfl) ?_
        refine WL.q (.bool ((n.fact : Int) == fact)) (by kernel_rfl) rfl (by kernel_rfl) (by kernel_rfl) ?_
        refine WL.nil ?_
        refine EX.then_code ?_
        refine CW.cond ((n.fact : Int) == fact) (by kernel_rfl) (by kernel_rfl) (fun c11 => ?_) (fun c11 => ?_)
        ·
          skip
          have d12 := eq_of_beq c11
          refine CW.region ?_
          refine WL.q (.slice ao out.length co) (by kernel_rfl) rfl (by kernel_rfl) (by kernel_rfl) ?_
          refine WL.q (.pointer (some ⟨p, 0, none⟩)) (by kernel_rfl) rfl (by kernel_rfl) (by kernel_rfl) ?_
          refine WL.q (.int .i64 (ks.getD j intE.dflt)) (by kernel_rfl) rfl (by kernel_rfl) (by kernel_rfl) ?_
          obtain ⟨N13, o13, A13⟩ := TreeA.lift (⟨_, _, T5, R5⟩ : TreeA _ _ _ _ _) oout4
          have hcl := cutF_len wf (hits row fact (ks.take j))
          refine WL.call (by kernel_rfl) rfl (by kernel_rfl) (by kernel_rfl) (cutT_spec G4 A13 (by omega) (ks.getD j intE.dflt)) (RetM.elim ?_)
          rintro w14 h14 M14 _ l14 G14 ⟨a14, rfl, rs14, A14⟩
          obtain ⟨N14, B14, o14⟩ := TreeA.sink o13 A14
          have hil := idsF_len hwj [(ks.getD j intE.dflt)]
          refine WL.append (e := 3) (bytes := 8) (cap := co) (c2 := ((idsF (cutF row (hits row fact (ks.take j))) [(ks.getD j intE.dflt)]).length)) (M0 := N14) (xs := out) (ys := (idsF (cutF row (hits row fact (ks.take j))) [(ks.getD j intE.dflt)])) G14 (PH.le_refl _) o14 (PH.le_refl _) (rs14.mono ((PH.le_refl _).trans G14.imm)) rfl (by kernel_rfl) (by kernel_rfl) rfl (by kernel_rfl) (by kernel_rfl) (by kernel_rfl) (by first | (simp only [maxLen, List.length_append, List.length_cons, List.length_nil]; omega) | (simp only [maxLen]; omega)) (by first | omega | (simp only [List.length_append, List.length_cons, List.length_nil]; omega)) ?_
          intro a15 k15 w15 M15 G15 o15 z15
          refine WL.q (.slice a15 ((out ++ (idsF (cutF row (hits row fact (ks.take j))) [(ks.getD j intE.dflt)])).length) k15) (by kernel_rfl) rfl (by kernel_rfl) (by kernel_rfl) ?_
          refine WL.nil ?_
          refine EX.in_block ?_
          refine EX.then_code ?_
          refine CW.region ?_
          refine WL.q (.int .i64 ((j + 1 : Nat) : Int)) (by kernel_rfl) rfl (by kernel_rfl) (q_int (x := IntKind.i64.wrap ((j : Int) + 1)) (by kernel_rfl) (wrap_to (by omega) (by omega) (by omega))) ?_
          refine WL.q (.int .i64 ((j + 1 : Nat) : Int)) (by kernel_rfl) rfl (by kernel_rfl) (by kernel_rfl) ?_
          refine WL.nil ?_
          have htk : (⟨n.id, n.parent, n.fact⟩ : Tok) ∈ cutF row (hits row fact (ks.take j)) := (R5.node n hn).resolve_left (by rw [hnid]; assumption)
          obtain ⟨u2, e2⟩ := u.hit wf (by omega) rfl htk hnid (by assumption)
          have A3 := B14
          rw [e2] at A3
          exact EX.then_loop ⟨j + 1, (out ++ (idsF (cutF row (hits row fact (ks.take j))) [(ks.getD j intE.dflt)])), a15, k15⟩ ⟨(by kernel_rfl), (by kernel_rfl), (by kernel_rfl), (by kernel_rfl), (by kernel_rfl), (by kernel_rfl), (lk_int (x := ((j + 1 : Nat) : Int)) (by kernel_rfl) (by first | omega | (dsimp only; done) | (dsimp only; omega))), trivial⟩ ⟨h14, N14, M15, (l4.trans l14), G15, A3, o15, (by first | omega | (dsimp only [List.length_nil, List.length_append, List.length_cons]; omega)), u2⟩ (by first | omega | (dsimp only; omega))
        ·
          skip
          have d16 := ne_of_beq_false c11
          refine CW.skip ?_
          refine EX.in_block ?_
          refine EX.then_code ?_
          refine CW.region ?_
          refine WL.q (.int .i64 ((j + 1 : Nat) : Int)) (by kernel_rfl) rfl (by kernel_rfl) (q_int (x := IntKind.i64.wrap ((j : Int) + 1)) (by kernel_rfl) (wrap_to (by omega) (by omega) (by omega))) ?_
          refine WL.q (.int .i64 ((j + 1 : Nat) : Int)) (by kernel_rfl) rfl (by kernel_rfl) (by kernel_rfl) ?_
          refine WL.nil ?_
          obtain ⟨u2, e2⟩ := u.miss wf (by omega) rfl (fun t ht e hf => by have hA := R5.fact hn ht (hnid.trans e.symm); first | (exact absurd (hA.trans hf) (by assumption)) | (have := hwj.pos ht; exact this (e.trans (by assumption))))
          have A3 := (⟨bm5, ns5, T5, R5⟩ : TreeA _ _ _ _ _)
          rw [e2] at A3
          exact EX.then_loop ⟨j + 1, out, ao, co⟩ ⟨(by kernel_rfl), (by kernel_rfl), (by kernel_rfl), (by kernel_rfl), (by kernel_rfl), (by kernel_rfl), (lk_int (x := ((j + 1 : Nat) : Int)) (by kernel_rfl) (by first | omega | (dsimp only; done) | (dsimp only; omega))), trivial⟩ ⟨h4, Mt4, Mout_4, l4, G4, A3, oout4, (by first | omega | (dsimp only [List.length_nil, List.length_append, List.length_cons]; omega)), u2⟩ (by first | omega | (dsimp only; omega))
      ·
        skip
        have d17 := bne_false c9
        refine WL.know 35 (.bool false) (x := .bool (((ks.getD j intE.dflt) : Int) != 0)) (by kernel_rfl) (congrArg Value.bool c9) ?_
        refine WL.skip (by kernel_rfl) rfl (by kernel_rfl) ?_
        refine WL.skip (by kernel_rfl) rfl (by kernel_rfl) ?_
        refine WL.skip (by kernel_rfl) rfl (by kernel_rfl) ?_
        refine WL.skip (by kernel_rfl) rfl (by kernel_rfl) ?_
        refine WL.skip (by kernel_rfl) rfl (by kernel_rfl) ?_
        refine WL.skip (by kernel_rfl) rfl (by kernel_rfl) ?_
        refine WL.q (.bool false) (by kernel_rfl) rfl (by kernel_rfl) (by kernel_rfl) ?_
        refine WL.nil ?_
        refine EX.then_code ?_
        refine CW.cond_f (by kernel_rfl) (by kernel_rfl) ?_
        refine CW.skip ?_
        refine EX.in_block ?_
        refine EX.then_code ?_
        refine CW.region ?_
        refine WL.q (.int .i64 ((j + 1 : Nat) : Int)) (by kernel_rfl) rfl (by kernel_rfl) (q_int (x := IntKind.i64.wrap ((j : Int) + 1)) (by kernel_rfl) (wrap_to (by omega) (by omega) (by omega))) ?_
        refine WL.q (.int .i64 ((j + 1 : Nat) : Int)) (by kernel_rfl) rfl (by kernel_rfl) (by kernel_rfl) ?_
        refine WL.nil ?_
        obtain ⟨u2, e2⟩ := u.miss wf (by omega) rfl (fun t ht e hf => by have hA := R5.fact hn ht (hnid.trans e.symm); first | (exact absurd (hA.trans hf) (by assumption)) | (have := hwj.pos ht; exact this (e.trans (by assumption))))
        have A3 := (⟨bm5, ns5, T5, R5⟩ : TreeA _ _ _ _ _)
        rw [e2] at A3
        exact EX.then_loop ⟨j + 1, out, ao, co⟩ ⟨(by kernel_rfl), (by kernel_rfl), (by kernel_rfl), (by kernel_rfl), (by kernel_rfl), (by kernel_rfl), (lk_int (x := ((j + 1 : Nat) : Int)) (by kernel_rfl) (by first | omega | (dsimp only; done) | (dsimp only; omega))), trivial⟩ ⟨h4, Mt4, Mout_4, l4, G4, A3, oout4, (by first | omega | (dsimp only [List.length_nil, List.length_append, List.length_cons]; omega)), u2⟩ (by first | omega | (dsimp only; omega))
    ·
      skip
      rw [not_or] at hin
      have hl : (ents ns5).lookup (ks.getD j intE.dflt) = none := ents_none (R5.lacks hin.1 (by omega))
      refine WL.q (.tuple #[(.pointer none), (.bool false)]) (by kernel_rfl) rfl (by kernel_rfl) (q_lookup (k := (ks.getD j intE.dflt)) true rfl mapT49 (by kernel_rfl) (by kernel_rfl) (G4.own _ _ (oout4.le _ _ hb6)) hm6 (by rw [hl]; rfl)) ?_
      refine WL.q (.tuple #[(.pointer none), (.bool false)]) (by kernel_rfl) rfl (by kernel_rfl) (by kernel_rfl) ?_
      refine WL.q (.pointer none) (by kernel_rfl) rfl (by kernel_rfl) (by kernel_rfl) ?_
      refine WL.q (.bool false) (by kernel_rfl) rfl (by kernel_rfl) (by kernel_rfl) ?_
      refine WL.q (.pointer none) (by kernel_rfl) rfl (by kernel_rfl) (by kernel_rfl) ?_
      refine WL.q (.bool false) (by kernel_rfl) rfl (by kernel_rfl) (by kernel_rfl) ?_
      refine WL.nil ?_
      refine EX.then_code ?_
      refine CW.seq ?_
      refine CW.region ?_
      refine WL.q (.bool false) (by kernel_rfl) rfl (by kernel_rfl) (by kernel_rfl) ?_
      refine WL.q (.bool false) (by kernel_rfl) rfl (by kernel_rfl) (by kernel_rfl) ?_
      refine WL.skip (by kernel_rfl) rfl (by kernel_rfl) ?_
      refine WL.skip (by kernel_rfl) rfl (by kernel_rfl) ?_
      refine WL.q (.bool false) (by kernel_rfl) rfl (by kernel_rfl) (by kernel_rfl) ?_
      refine WL.q (.bool false) (by kernel_rfl) rfl (by kernel_rfl) (by kernel_rfl) ?_
      refine WL.skip (by kernel_rfl) rfl (by kernel_rfl) ?_
      refine WL.skip (by kernel_rfl) rfl (by kernel_rfl) ?_
      refine WL.skip (by kernel_rfl) rfl (by kernel_rfl) ?_
      refine WL.skip (by kernel_rfl) rfl (by kernel_rfl) ?_
      refine WL.skip (by kernel_rfl) rfl (by kernel_rfl) ?_
      refine WL.skip (by kernel_rfl) rfl (by kernel_rfl) ?_
      refine WL.q (.bool false) (by kernel_rfl) rfl (by kernel_rfl) (by kernel_rfl) ?_
      refine WL.nil ?_
      refine EX.then_code ?_
      refine CW.cond_f (by kernel_rfl) (by kernel_rfl) ?_
      refine CW.skip ?_
      refine EX.in_block ?_
      refine EX.then_code ?_
      refine CW.region ?_
      refine WL.q (.int .i64 ((j + 1 : Nat) : Int)) (by kernel_rfl) rfl (by kernel_rfl) (q_int (x := IntKind.i64.wrap ((j : Int) + 1)) (by kernel_rfl) (wrap_to (by omega) (by omega) (by omega))) ?_
      refine WL.q (.int .i64 ((j + 1 : Nat) : Int)) (by kernel_rfl) rfl (by kernel_rfl) (by kernel_rfl) ?_
      refine WL.nil ?_
      obtain ⟨u2, e2⟩ := u.miss wf (by omega) rfl (fun t ht e _ => by have := has_iff.2 ⟨t, ht, e⟩; omega)
      have A3 := (⟨bm5, ns5, T5, R5⟩ : TreeA _ _ _ _ _)
      rw [e2] at A3
      exact EX.then_loop ⟨j + 1, out, ao, co⟩ ⟨(by kernel_rfl), (by kernel_rfl), (by kernel_rfl), (by kernel_rfl), (by kernel_rfl), (by kernel_rfl), (lk_int (x := ((j + 1 : Nat) : Int)) (by kernel_rfl) (by first | omega | (dsimp only; done) | (dsimp only; omega))), trivial⟩ ⟨h4, Mt4, Mout_4, l4, G4, A3, oout4, (by first | omega | (dsimp only [List.length_nil, List.length_append, List.length_cons]; omega)), u2⟩ (by first | omega | (dsimp only; omega))
  ·
    skip
    have d18 := of_decide_eq_false c7
    refine CW.exit ?_
    refine EX.exit_then ?_
    refine EX.exit_then ?_
    refine EX.exit_here ?_
    refine EX.then_code ?_
    refine CW.seq ?_
    refine CW.region ?_
    refine WL.q (.slice ao out.length co) (by kernel_rfl) rfl (by kernel_rfl) (by kernel_rfl) ?_
    have hul := u.len
    refine WL.call (by kernel_rfl) rfl (by kernel_rfl) (by kernel_rfl) (sort_spec G4 oout4 (by omega)) (RetM.elim ?_)
    rintro w19 h19 M19 _ l19 G19 ⟨rfl, o19⟩
    have hsl19 := sortInts_len out
    refine WL.nil ?_
    refine EX.then_code ?_
    refine CW.seq ?_
    refine CW.region ?_
    refine WL.q (.slice ao out.length co) (by kernel_rfl) rfl (by kernel_rfl) (by kernel_rfl) ?_
    refine WL.call (by kernel_rfl) rfl (by kernel_rfl) (by kernel_rfl) (clip_spec (a := ao) (m := out.length) (c := co) G19 (by have q_ := o19.cap_le; first | omega | (simp only [List.length_append, List.length_cons, List.length_nil] at *; omega))) (Ret.elim ?_)
    rintro w20 h20 _ l20 G20 rfl
    refine WL.q (.slice ao out.length out.length) (by kernel_rfl) rfl (by kernel_rfl) (by kernel_rfl) ?_
    refine WL.nil ?_
    refine EX.then_code ?_
    refine CW.ret ?_
    refine EX.ret1 (v := (.slice ao out.length out.length)) rfl (by kernel_rfl) ?_
    obtain ⟨h21, l21, G21, r21⟩ := o19.freeze G20
    obtain ⟨f1, f2⟩ := u.done wf (by omega) hka
    have Afin := A4
    rw [f2] at Afin
    exact RetM.mk ((((((((PH.le_refl _).trans l1).trans l2).trans l3).trans l4).trans l19).trans l20).trans l21) G21 ⟨_, by rw [← f1, hsl19], f1 ▸ r21, Afin⟩
end Go.Proofs
