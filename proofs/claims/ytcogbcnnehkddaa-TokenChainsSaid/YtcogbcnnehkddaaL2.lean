import Derived.Test.YtcogbcnnehkddaaSl
import Derived.Test.YtcogbcnnehkddaaChecked
namespace Go.Proofs
open Go Go.Wk
theorem rev_spec {K : Key} {w : World} {h M : PH} (G : Wld K w h M) {M0 : PH} {a : Option Addr} {xs : List Int} {c : Nat} (own : Own 3 intE M0 M a c xs) (hb : xs.length ≤ 4000000) :
    Calls Try.prog 24 #[.slice a xs.length c] w (RetM K h fun h' M' v => v = .tuple #[] ∧ Own 3 intE M0 M' a c xs.reverse) := by
  refine enter (l := [(.slice a xs.length c)]) Try.func24 rfl Try.ntmps24 (Nat.le_of_ble_eq_true rfl) ?_
  simp only [params]
  refine CW.seq ?_
  refine CW.region ?_
  refine WL.q (.slice a xs.length c) (by kernel_rfl) rfl (by kernel_rfl) (by kernel_rfl) ?_
  refine WL.q (.int .i64 (xs.length : Int)) (by kernel_rfl) rfl (by kernel_rfl) (by kernel_rfl) ?_
  refine WL.q (.int .i64 ((xs.length : Int) - 1)) (by kernel_rfl) rfl (by kernel_rfl) (q_int (x := IntKind.i64.wrap ((xs.length : Int) - 1)) (by kernel_rfl) (wrap_to (by omega) (by omega) (by omega))) ?_
  refine WL.q (.int .i64 0) (by kernel_rfl) rfl (by kernel_rfl) (by kernel_rfl) ?_
  refine WL.q (.int .i64 ((xs.length : Int) - 1)) (by kernel_rfl) rfl (by kernel_rfl) (by kernel_rfl) ?_
  refine WL.nil ?_
  refine EX.then_code ?_
  refine CW.block ?_
  refine CW.loop (β := Nat × List Int) (fun x_ => [(0, (.slice a xs.length c)), (2, (.int .i64 (x_.1 : Int))), (3, (.int .i64 ((xs.length : Int) - 1 - (x_.1 : Int))))]) (fun x_ w_ => ∃ h_ Mxs_, (PH.le h h_) ∧ (Wld K w_ h_ Mxs_) ∧ (Own 3 intE M0 Mxs_ a c x_.2) ∧ (RevAt xs x_.1 x_.2) ∧ (2 * x_.1 ≤ xs.length + 1)) (fun x_ => xs.length - x_.1) ⟨0, xs⟩ ⟨(by kernel_rfl), (lk_int (x := 0) (by kernel_rfl) (by first | omega | (dsimp only; done) | (dsimp only; omega))), (lk_int (x := (xs.length : Int) - 1) (by kernel_rfl) (by first | omega | (dsimp only; done) | (dsimp only; omega))), trivial⟩ ⟨h, M, (PH.le_refl _), G, own, (RevAt.start xs), (by omega)⟩ ?_
  rintro ⟨i, ys⟩ w29 ⟨h29, Mxs_29, l29, G29, oxs29, hr, hi⟩
  try dsimp only at *
  have hrl := hr.len
  refine CW.seq ?_
  refine CW.seq ?_
  refine CW.region ?_
  refine WL.q (.int .i64 (i : Int)) (by kernel_rfl) rfl (by kernel_rfl) (by kernel_rfl) ?_
  refine WL.q (.int .i64 ((xs.length : Int) - 1 - (i : Int))) (by kernel_rfl) rfl (by kernel_rfl) (by kernel_rfl) ?_
  refine WL.q (.bool (decide ((i : Int) < ((xs.length : Int) - 1 - (i : Int))))) (by kernel_rfl) rfl (by kernel_rfl) (by kernel_rfl) ?_
  refine WL.nil ?_
  refine EX.then_code ?_
  refine CW.cond (decide ((i : Int) < ((xs.length : Int) - 1 - (i : Int)))) (by kernel_rfl) (by kernel_rfl) (fun c30 => ?_) (fun c30 => ?_)
  ·
    skip
    have d31 := of_decide_eq_true c30
    refine CW.skip ?_
    refine EX.then_code ?_
    refine CW.seq ?_
    refine CW.block ?_
    refine CW.draw (by kernel_rfl) [(7, fun w_ => RS (PH.all w_) intE a ys), (11, fun w_ => RS (PH.all w_) intE a ys)] ?_
    refine DW.take (T := fun _ => True) 0 (.slice a xs.length c) rfl (by kernel_rfl) rfl (by kernel_rfl) (.inl fun _ => trivial) (by kernel_rfl) (Deaf.block (Deaf.thens (Deaf.thens (Deaf.block (Deaf.body RetM.not_panicked))))) (fun w_ _ => (by kernel_rfl)) trivial ?_
    refine DW.take (T := fun _ => True) 1 (.int .i64 (i : Int)) rfl (by kernel_rfl) rfl (by kernel_rfl) (.inl fun _ => trivial) (by kernel_rfl) (Deaf.block (Deaf.thens (Deaf.thens (Deaf.block (Deaf.body RetM.not_panicked))))) (fun w_ _ => (by kernel_rfl)) trivial ?_
    refine DW.take (T := fun _ => True) 2 (.slice a xs.length c) rfl (by kernel_rfl) rfl (by kernel_rfl) (.inl fun _ => trivial) (by kernel_rfl) (Deaf.block (Deaf.thens (Deaf.thens (Deaf.block (Deaf.body RetM.not_panicked))))) (fun w_ _ => (by kernel_rfl)) trivial ?_
    refine DW.take (T := fun _ => True) 3 (.int .i64 ((xs.length : Int) - 1 - (i : Int))) rfl (by kernel_rfl) rfl (by kernel_rfl) (.inl fun _ => trivial) (by kernel_rfl) (Deaf.block (Deaf.thens (Deaf.thens (Deaf.block (Deaf.body RetM.not_panicked))))) (fun w_ _ => (by kernel_rfl)) trivial ?_
    refine DW.take (T := fun _ => True) 4 (.slice a xs.length c) rfl (by kernel_rfl) rfl (by kernel_rfl) (.inl fun _ => trivial) (by kernel_rfl) (Deaf.block (Deaf.thens (Deaf.thens (Deaf.block (Deaf.body RetM.not_panicked))))) (fun w_ _ => (by kernel_rfl)) trivial ?_
    refine DW.take (T := fun _ => True) 5 (.int .i64 ((xs.length : Int) - 1 - (i : Int))) rfl (by kernel_rfl) rfl (by kernel_rfl) (.inl fun _ => trivial) (by kernel_rfl) (Deaf.block (Deaf.thens (Deaf.thens (Deaf.block (Deaf.body RetM.not_panicked))))) (fun w_ _ => (by kernel_rfl)) trivial ?_
    refine DW.take (T := fun _ => True) 6 (eptr a (((((xs.length : Int) - 1 - (i : Int))).toNat) * intE.sz)) rfl (by kernel_rfl) rfl (by kernel_rfl) (.inl fun _ => trivial) (by kernel_rfl) (Deaf.block (Deaf.thens (Deaf.thens (Deaf.block (Deaf.body RetM.not_panicked))))) (fun w_ _ => (q_indexAddr (i := ((((xs.length : Int) - 1 - (i : Int))).toNat)) (E := intE) (xs := ys) (e := 3) (c := c) (k := .i64) (m := xs.length) (by omega) rfl (by kernel_rfl) (by kernel_rfl) ((show _ = Value.int .i64 ((xs.length : Int) - 1 - (i : Int)) by kernel_rfl).trans (congrArg (Value.int .i64) (by omega))) (oxs29.reads.mono ((PH.le_refl _).trans (G29.drew).own)) (by omega))) trivial ?_
    refine DW.take (T := fun w_ => RS (PH.all w_) intE a ys) 7 (.int .i64 (ys.getD ((((xs.length : Int) - 1 - (i : Int))).toNat) intE.dflt)) rfl (by kernel_rfl) rfl (by kernel_rfl) (.inr (by simp only [List.mem_cons, true_or, or_true])) (by kernel_rfl) (Deaf.block (Deaf.thens (Deaf.thens (Deaf.block (Deaf.body RetM.not_panicked))))) (fun w_ T_ => (q_load_e (i := ((((xs.length : Int) - 1 - (i : Int))).toNat)) (k := 0) (E := intE) rfl (by kernel_rfl) (by kernel_rfl) T_ (by omega) (by decide) (by kernel_rfl))) (oxs29.reads.mono ((PH.le_refl _).trans (G29.drew).own)) ?_
    refine DW.take (T := fun _ => True) 8 (.slice a xs.length c) rfl (by kernel_rfl) rfl (by kernel_rfl) (.inl fun _ => trivial) (by kernel_rfl) (Deaf.block (Deaf.thens (Deaf.thens (Deaf.block (Deaf.body RetM.not_panicked))))) (fun w_ _ => (by kernel_rfl)) trivial ?_
    refine DW.take (T := fun _ => True) 9 (.int .i64 (i : Int)) rfl (by kernel_rfl) rfl (by kernel_rfl) (.inl fun _ => trivial) (by kernel_rfl) (Deaf.block (Deaf.thens (Deaf.thens (Deaf.block (Deaf.body RetM.not_panicked))))) (fun w_ _ => (by kernel_rfl)) trivial ?_
    refine DW.take (T := fun _ => True) 10 (eptr a (i * intE.sz)) rfl (by kernel_rfl) rfl (by kernel_rfl) (.inl fun _ => trivial) (by kernel_rfl) (Deaf.block (Deaf.thens (Deaf.thens (Deaf.block (Deaf.body RetM.not_panicked))))) (fun w_ _ => (q_indexAddr (i := i) (E := intE) (xs := ys) (e := 3) (c := c) (k := .i64) (m := xs.length) (by omega) rfl (by kernel_rfl) (by kernel_rfl) (by kernel_rfl) (oxs29.reads.mono ((PH.le_refl _).trans (G29.drew).own)) (by omega))) trivial ?_
    refine DW.take (T := fun w_ => RS (PH.all w_) intE a ys) 11 (.int .i64 (ys.getD i intE.dflt)) rfl (by kernel_rfl) rfl (by kernel_rfl) (.inr (by simp only [List.mem_cons, true_or, or_true])) (by kernel_rfl) (Deaf.block (Deaf.thens (Deaf.thens (Deaf.block (Deaf.body RetM.not_panicked))))) (fun w_ T_ => (q_load_e (i := i) (k := 0) (E := intE) rfl (by kernel_rfl) (by kernel_rfl) T_ (by omega) (by decide) (by kernel_rfl))) (oxs29.reads.mono ((PH.le_refl _).trans (G29.drew).own)) ?_
    refine DW.take (T := fun _ => True) 12 (eptr a (i * intE.sz)) rfl (by kernel_rfl) rfl (by kernel_rfl) (.inl fun _ => trivial) (by kernel_rfl) (Deaf.block (Deaf.thens (Deaf.thens (Deaf.block (Deaf.body RetM.not_panicked))))) (fun w_ _ => (q_indexAddr (i := i) (E := intE) (xs := ys) (e := 3) (c := c) (k := .i64) (m := xs.length) (by omega) rfl (by kernel_rfl) (by kernel_rfl) (by kernel_rfl) (oxs29.reads.mono ((PH.le_refl _).trans (G29.drew).own)) (by omega))) trivial ?_
    refine DW.only 13 (by kernel_rfl) ?_
    refine DOp.storeE (v := (.int .i64 (ys.getD ((((xs.length : Int) - 1 - (i : Int))).toNat) intE.dflt))) (xs := ys) (i := i) (ys.getD ((((xs.length : Int) - 1 - (i : Int))).toNat) intE.dflt) (G29.drew) oxs29 (by first | omega | (simp only [List.length_set]; omega)) rfl rfl (by kernel_rfl) (by kernel_rfl) rfl (by kernel_rfl) (by kernel_rfl) (by kernel_rfl) (by kernel_rfl) (fun w_ M_ G_ => ⟨.inl (by kernel_rfl), .inl (by kernel_rfl), trivial⟩) ?_
    intro w33 M33 G33 o33
    refine DW.take (T := fun _ => True) 14 (eptr a (((((xs.length : Int) - 1 - (i : Int))).toNat) * intE.sz)) rfl (by kernel_rfl) rfl (by kernel_rfl) (.inl fun _ => trivial) (by kernel_rfl) (Deaf.block (Deaf.thens (Deaf.thens (Deaf.block (Deaf.body RetM.not_panicked))))) (fun w_ _ => (q_indexAddr (i := ((((xs.length : Int) - 1 - (i : Int))).toNat)) (E := intE) (xs := (ys.set i (ys.getD ((((xs.length : Int) - 1 - (i : Int))).toNat) intE.dflt))) (e := 3) (c := c) (k := .i64) (m := xs.length) (by simp only [List.length_set]; omega) rfl (by kernel_rfl) (by kernel_rfl) ((show _ = Value.int .i64 ((xs.length : Int) - 1 - (i : Int)) by kernel_rfl).trans (congrArg (Value.int .i64) (by omega))) (o33.reads.mono ((PH.le_refl _).trans G33.own)) (by simp only [List.length_set]; omega))) trivial ?_
    refine DW.only 15 (by kernel_rfl) ?_
    refine DOp.storeE (v := (.int .i64 (ys.getD i intE.dflt))) (xs := (ys.set i (ys.getD ((((xs.length : Int) - 1 - (i : Int))).toNat) intE.dflt))) (i := ((((xs.length : Int) - 1 - (i : Int))).toNat)) (ys.getD i intE.dflt) G33 o33 (by first | omega | (simp only [List.length_set]; omega)) rfl rfl (by kernel_rfl) (by kernel_rfl) rfl (by kernel_rfl) (by kernel_rfl) (by kernel_rfl) (by kernel_rfl) (fun w_ M_ G_ => ⟨.inl (by kernel_rfl), .inl (by kernel_rfl), trivial⟩) ?_
    intro w34 M34 G34 o34
    refine DW.done (by kernel_rfl) ?_
    refine EX.in_block ?_
    refine EX.then_code ?_
    refine CW.region ?_
    refine WL.q (.int .i64 (i : Int)) (by kernel_rfl) rfl (by kernel_rfl) (by kernel_rfl) ?_
    refine WL.q (.int .i64 ((i + 1 : Nat) : Int)) (by kernel_rfl) rfl (by kernel_rfl) (q_int (x := IntKind.i64.wrap ((i : Int) + 1)) (by kernel_rfl) (wrap_to (by omega) (by omega) (by omega))) ?_
    refine WL.q (.int .i64 ((xs.length : Int) - 1 - (i : Int))) (by kernel_rfl) rfl (by kernel_rfl) (by kernel_rfl) ?_
    refine WL.q (.int .i64 (((xs.length : Int) - 1 - (i : Int)) - 1)) (by kernel_rfl) rfl (by kernel_rfl) (q_int (x := IntKind.i64.wrap (((xs.length : Int) - 1 - (i : Int)) - 1)) (by kernel_rfl) (wrap_to (by omega) (by omega) (by omega))) ?_
    refine WL.q (.int .i64 ((i + 1 : Nat) : Int)) (by kernel_rfl) rfl (by kernel_rfl) (by kernel_rfl) ?_
    refine WL.q (.int .i64 (((xs.length : Int) - 1 - (i : Int)) - 1)) (by kernel_rfl) rfl (by kernel_rfl) (by kernel_rfl) ?_
    refine WL.nil ?_
    have hr2 := hr.step (d := intE.dflt) (j := ((xs.length : Int) - 1 - (i : Int)).toNat) (by omega) (by omega)
    exact EX.then_loop ⟨i + 1, ((ys.set i (ys.getD ((((xs.length : Int) - 1 - (i : Int))).toNat) intE.dflt)).set ((((xs.length : Int) - 1 - (i : Int))).toNat) (ys.getD i intE.dflt))⟩ ⟨(by kernel_rfl), (lk_int (x := ((i + 1 : Nat) : Int)) (by kernel_rfl) (by first | omega | (dsimp only; done) | (dsimp only; omega))), (lk_int (x := ((xs.length : Int) - 1 - (i : Int)) - 1) (by kernel_rfl) (by first | omega | (dsimp only; done) | (dsimp only; omega))), trivial⟩ ⟨h29, M34, l29, G34, o34, hr2, (by omega)⟩ (by first | omega | (dsimp only; omega))
  ·
    skip
    have d35 := of_decide_eq_false c30
    refine CW.exit ?_
    refine EX.exit_then ?_
    refine EX.exit_then ?_
    refine EX.exit_here ?_
    refine EX.end0 rfl ?_
    exact RetM.mk l29 G29 ⟨rfl, hr.done (by omega) ▸ oxs29⟩
end Go.Proofs
