import Derived.Test.YtcogbcnnehkddaaL1
import Derived.Test.YtcogbcnnehkddaaL2
import Derived.Test.YtcogbcnnehkddaaRl
import Derived.Test.YtcogbcnnehkddaaW2
namespace Go.Proofs
open Go Go.Wk
theorem mapT49 : mapT Try.prog 49 (.int .i64) (.pointer none) := ⟨3, 46, by kernel_rfl, by kernel_rfl, by kernel_rfl⟩

theorem len_spec {K : Key} {w : World} {h M0 M : PH} (G : Wld K w h M) {p bm : Nat} {ns : List Nd} {last : Int} (T : TreeM M0 M p bm ns last) (hl : ns.length ≤ 1000000) :
    Calls Try.prog 13 #[.pointer (some ⟨p, 0, none⟩)] w (Ret K h M fun _ v => v = .int .i64 ((ns.length : Int) - 1)) := by
  obtain ⟨es, clk, hb, hm⟩ := T.map
  refine enter (l := [(.pointer (some ⟨p, 0, none⟩))]) Try.func13 rfl Try.ntmps13 (Nat.le_of_ble_eq_true rfl) ?_
  simp only [params]
  refine CW.seq ?_
  refine CW.region ?_
  refine WL.q (.int .i64 0) (by kernel_rfl) rfl (by kernel_rfl) (by kernel_rfl) ?_
  refine WL.nil ?_
  refine EX.then_code ?_
  refine CW.seq ?_
  refine CW.region ?_
  refine WL.q (.pointer (some ⟨p, 0, none⟩)) (by kernel_rfl) rfl (by kernel_rfl) (by kernel_rfl) ?_
  refine WL.q (.pointer (some ⟨p, 0, none⟩)) (by kernel_rfl) rfl (by kernel_rfl) (by kernel_rfl) ?_
  refine WL.q (.pointer (some ⟨p, 0, none⟩)) (by kernel_rfl) rfl (by kernel_rfl) (by kernel_rfl) ?_
  refine WL.q (.map (some bm)) (by kernel_rfl) rfl (by kernel_rfl) (q_load (off := 0) rfl (by kernel_rfl) (by kernel_rfl) (G.own _ _ T.root) (by kernel_rfl)) ?_
  refine WL.q (.int .i64 (ns.length : Int)) (by kernel_rfl) rfl (by kernel_rfl) (q_val (q_lenMap (kt := 3) (et := 46) rfl (by kernel_rfl) (by kernel_rfl) (G.own _ _ hb) hm) (by simp [ents])) ?_
  refine WL.q (.int .i64 ((ns.length : Int) - 1)) (by kernel_rfl) rfl (by kernel_rfl) (q_int (x := IntKind.i64.wrap ((ns.length : Int) - 1)) (by kernel_rfl) (wrap_to (by omega) (by omega) (by omega))) ?_
  refine WL.q (.int .i64 ((ns.length : Int) - 1)) (by kernel_rfl) rfl (by kernel_rfl) (by kernel_rfl) ?_
  refine WL.nil ?_
  refine EX.then_code ?_
  refine CW.ret ?_
  refine EX.ret1 (v := (.int .i64 ((ns.length : Int) - 1))) rfl (by kernel_rfl) ?_
  exact Ret.mk (PH.le_refl _) G (rfl)

theorem kids_yes {K : Key} {w : World} {h M0 M : PH} (G : Wld K w h M) {p bm : Nat} {ns : List Nd} {last : Int} (T : TreeM M0 M p bm ns last) {n : Nd} (hn : n ∈ ns) (hk : n.kids.length ≤ 1000000) :
    Calls Try.prog 16 #[.pointer (some ⟨p, 0, none⟩), .int .i64 n.id] w (Ret K h M fun h' v => ∃ a, v = .slice a n.kids.length n.kids.length ∧ RS h' intE a n.kids) := by
  obtain ⟨es, clk, hb, hm⟩ := T.map
  have hl := ents_some T.ids hn
  refine enter (l := [(.pointer (some ⟨p, 0, none⟩)), (.int .i64 n.id)]) Try.func16 rfl Try.ntmps16 (Nat.le_of_ble_eq_true rfl) ?_
  simp only [params]
  refine CW.seq ?_
  refine CW.region ?_
  refine WL.q (.slice none 0 0) (by kernel_rfl) rfl (by kernel_rfl) (by kernel_rfl) ?_
  refine WL.nil ?_
  refine EX.then_code ?_
  refine CW.seq ?_
  refine CW.region ?_
  refine WL.q (.pointer (some ⟨p, 0, none⟩)) (by kernel_rfl) rfl (by kernel_rfl) (by kernel_rfl) ?_
  refine WL.q (.pointer (some ⟨p, 0, none⟩)) (by kernel_rfl) rfl (by kernel_rfl) (by kernel_rfl) ?_
  refine WL.q (.pointer (some ⟨p, 0, none⟩)) (by kernel_rfl) rfl (by kernel_rfl) (by kernel_rfl) ?_
  refine WL.q (.map (some bm)) (by kernel_rfl) rfl (by kernel_rfl) (q_load (off := 0) rfl (by kernel_rfl) (by kernel_rfl) (G.own _ _ T.root) (by kernel_rfl)) ?_
  refine WL.q (.int .i64 n.id) (by kernel_rfl) rfl (by kernel_rfl) (by kernel_rfl) ?_
  refine WL.q (.tuple #[(.pointer (some ⟨n.b, 0, none⟩)), (.bool true)]) (by kernel_rfl) rfl (by kernel_rfl) (q_lookup (k := n.id) true rfl mapT49 (by kernel_rfl) (by kernel_rfl) (G.own _ _ hb) hm (by rw [hl]; rfl)) ?_
  refine WL.q (.tuple #[(.pointer (some ⟨n.b, 0, none⟩)), (.bool true)]) (by kernel_rfl) rfl (by kernel_rfl) (by kernel_rfl) ?_
  refine WL.q (.pointer (some ⟨n.b, 0, none⟩)) (by kernel_rfl) rfl (by kernel_rfl) (by kernel_rfl) ?_
  refine WL.q (.bool true) (by kernel_rfl) rfl (by kernel_rfl) (by kernel_rfl) ?_
  refine WL.q (.pointer (some ⟨n.b, 0, none⟩)) (by kernel_rfl) rfl (by kernel_rfl) (by kernel_rfl) ?_
  refine WL.q (.bool true) (by kernel_rfl) rfl (by kernel_rfl) (by kernel_rfl) ?_
  refine WL.nil ?_
  refine EX.then_code ?_
  refine CW.seq ?_
  refine CW.seq ?_
  refine CW.region ?_
  refine WL.q (.bool true) (by kernel_rfl) rfl (by kernel_rfl) (by kernel_rfl) ?_
  refine WL.q (.bool false) (by kernel_rfl) rfl (by kernel_rfl) (by kernel_rfl) ?_
  refine WL.nil ?_
  refine EX.then_code ?_
  refine CW.cond_f (by kernel_rfl) (by kernel_rfl) ?_
  refine CW.skip ?_
  refine EX.then_code ?_
  refine CW.seq ?_
  refine CW.region ?_
  refine WL.q (.pointer (some ⟨n.b, 0, none⟩)) (by kernel_rfl) rfl (by kernel_rfl) (by kernel_rfl) ?_
  refine WL.q (.pointer (some ⟨n.b, 0, none⟩)) (by kernel_rfl) rfl (by kernel_rfl) (by kernel_rfl) ?_
  refine WL.q (.pointer (some ⟨n.b, 2, none⟩)) (by kernel_rfl) rfl (by kernel_rfl) (by kernel_rfl) ?_
  refine WL.q (.slice n.ka n.kids.length n.kc) (by kernel_rfl) rfl (by kernel_rfl) (q_load (off := 2) rfl (by kernel_rfl) (by kernel_rfl) (G.own _ _ ((T.nodes _ hn).1)) (by kernel_rfl)) ?_
  refine WL.call (by kernel_rfl) rfl (by kernel_rfl) (by kernel_rfl) (clone_spec (c := n.kc) G (((T.kids hn).1.reads).mono G.own) (by omega)) (RetM.elim ?_)
  rintro w1 h1 M1 _ l1 G1 ⟨a1, k1, rfl, o1, z1⟩
  refine WL.call (by kernel_rfl) rfl (by kernel_rfl) (by kernel_rfl) (clip_spec (a := a1) (m := n.kids.length) (c := k1) G1 o1.cap_le) (Ret.elim ?_)
  rintro w2 h2 _ l2 G2 rfl
  refine WL.q (.slice a1 n.kids.length n.kids.length) (by kernel_rfl) rfl (by kernel_rfl) (by kernel_rfl) ?_
  refine WL.nil ?_
  refine EX.then_code ?_
  refine CW.ret ?_
  refine EX.ret1 (v := (.slice a1 n.kids.length n.kids.length)) rfl (by kernel_rfl) ?_
  obtain ⟨h3, l3, G3, r3⟩ := o1.freeze G2
  exact Ret.mk ((((PH.le_refl _).trans l1).trans l2).trans l3) G3 ⟨_, rfl, r3⟩

theorem kids_no {K : Key} {w : World} {h M0 M : PH} (G : Wld K w h M) {p bm : Nat} {ns : List Nd} {last : Int} (T : TreeM M0 M p bm ns last) {id : Int} (hn : ∀ n ∈ ns, n.id ≠ id) :
    Calls Try.prog 16 #[.pointer (some ⟨p, 0, none⟩), .int .i64 id] w (Ret K h M fun _ v => v = .slice none 0 0) := by
  obtain ⟨es, clk, hb, hm⟩ := T.map
  have hl := ents_none hn
  refine enter (l := [(.pointer (some ⟨p, 0, none⟩)), (.int .i64 id)]) Try.func16 rfl Try.ntmps16 (Nat.le_of_ble_eq_true rfl) ?_
  simp only [params]
  refine CW.seq ?_
  refine CW.region ?_
  refine WL.q (.slice none 0 0) (by kernel_rfl) rfl (by kernel_rfl) (by kernel_rfl) ?_
  refine WL.nil ?_
  refine EX.then_code ?_
  refine CW.seq ?_
  refine CW.region ?_
  refine WL.q (.pointer (some ⟨p, 0, none⟩)) (by kernel_rfl) rfl (by kernel_rfl) (by kernel_rfl) ?_
  refine WL.q (.pointer (some ⟨p, 0, none⟩)) (by kernel_rfl) rfl (by kernel_rfl) (by kernel_rfl) ?_
  refine WL.q (.pointer (some ⟨p, 0, none⟩)) (by kernel_rfl) rfl (by kernel_rfl) (by kernel_rfl) ?_
  refine WL.q (.map (some bm)) (by kernel_rfl) rfl (by kernel_rfl) (q_load (off := 0) rfl (by kernel_rfl) (by kernel_rfl) (G.own _ _ T.root) (by kernel_rfl)) ?_
  refine WL.q (.int .i64 id) (by kernel_rfl) rfl (by kernel_rfl) (by kernel_rfl) ?_
  refine WL.q (.tuple #[(.pointer none), (.bool false)]) (by kernel_rfl) rfl (by kernel_rfl) (q_lookup (k := id) true rfl mapT49 (by kernel_rfl) (by kernel_rfl) (G.own _ _ hb) hm (by rw [hl]; rfl)) ?_
  refine WL.q (.tuple #[(.pointer none), (.bool false)]) (by kernel_rfl) rfl (by kernel_rfl) (by kernel_rfl) ?_
  refine WL.q (.pointer none) (by kernel_rfl) rfl (by kernel_rfl) (by kernel_rfl) ?_
  refine WL.q (.bool false) (by kernel_rfl) rfl (by kernel_rfl) (by kernel_rfl) ?_
  refine WL.q (.pointer none) (by kernel_rfl) rfl (by kernel_rfl) (by kernel_rfl) ?_
  refine WL.q (.bool false) (by kernel_rfl) rfl (by kernel_rfl) (by kernel_rfl) ?_
  refine WL.nil ?_
  refine EX.then_code ?_
  refine CW.seq ?_
  refine CW.seq ?_
  refine CW.region ?_
  refine WL.q (.bool false) (by kernel_rfl) rfl (by kernel_rfl) (by kernel_rfl) ?_
  refine WL.q (.bool true) (by kernel_rfl) rfl (by kernel_rfl) (by kernel_rfl) ?_
  refine WL.nil ?_
  refine EX.then_code ?_
  refine CW.cond_t (by kernel_rfl) (by kernel_rfl) ?_
  refine CW.seq ?_
  refine CW.region ?_
  refine WL.q (.slice none 0 0) (by kernel_rfl) rfl (by kernel_rfl) (by kernel_rfl) ?_
  refine WL.nil ?_
  refine EX.then_code ?_
  refine CW.ret ?_
  refine EX.ret_then ?_
  refine EX.ret1 (v := (.slice none 0 0)) rfl (by kernel_rfl) ?_
  exact Ret.mk (PH.le_refl _) G rfl
end Go.Proofs
