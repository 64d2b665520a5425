import Derived.Test.YthlcldgcjilfcaaW2
namespace Go.Proofs
open Go Go.Wk
theorem sortInts_perm {l l' : List Int} (h : l.Perm l') : sortInts l = sortInts l' := Go.mergeSort_of_perm_i h
theorem sortInts_id {l : List Int} (h : l.Pairwise (· ≤ ·)) : sortInts l = l := List.mergeSort_of_pairwise (h.imp fun q => decide_eq_true q)
theorem sortInts_up (l : List Int) : (sortInts l).Pairwise (· ≤ ·) := by
  have := List.pairwise_mergeSort (le := fun x y : Int => decide (x ≤ y)) (fun a b c h1 h2 => by simp only [decide_eq_true_eq] at *; omega) (fun a b => by simp only [Bool.or_eq_true, decide_eq_true_eq]; omega) l
  exact this.imp fun q => by simpa using q
theorem ins_ok {os l : List Int} {i k : Nat} (hi : i < l.length) (hk : k ≤ os.length) (hp : os.Perm (l.take i)) (hs : os.Pairwise (· ≤ ·)) (hgt : ∀ j, k ≤ j → j < os.length → l.getD i 0 < os.getD j 0) (hle : k = 0 ∨ os.getD (k - 1) 0 ≤ l.getD i 0) :
    (os.take k ++ [l.getD i 0] ++ os.drop k).Perm (l.take (i + 1)) ∧ (os.take k ++ [l.getD i 0] ++ os.drop k).Pairwise (· ≤ ·) := by
  have e : l.getD i 0 = l[i] := by simp [List.getD, hi]
  constructor
  · rw [List.take_succ_eq_append_getElem hi, ← e]
    have h1 : (os.take k ++ [l.getD i 0] ++ os.drop k).Perm (os.take k ++ os.drop k ++ [l.getD i 0]) := by
      rw [List.append_assoc, List.append_assoc]
      exact List.Perm.append_left _ List.perm_append_comm
    rw [List.take_append_drop] at h1
    exact h1.trans (hp.append_right _)
  · have hd : ∀ j, (hj : j < os.length) → os.getD j 0 = os[j] := fun j hj => by simp [List.getD, hj]
    have hlo : ∀ x ∈ os.take k, x ≤ l.getD i 0 := by
      intro x hx
      obtain ⟨j, hj, rfl⟩ := List.getElem_of_mem hx
      rw [List.length_take] at hj
      rw [List.getElem_take]
      rcases hle with rfl | hle
      · omega
      · rw [hd (k - 1) (by omega)] at hle
        rcases Nat.lt_or_ge j (k - 1) with q | q
        · have := List.pairwise_iff_getElem.1 hs j (k - 1) (by omega) (by omega) q
          omega
        · have : j = k - 1 := by omega
          subst this; exact hle
    have hhi : ∀ x ∈ os.drop k, l.getD i 0 ≤ x := by
      intro x hx
      obtain ⟨j, hj, rfl⟩ := List.getElem_of_mem hx
      rw [List.length_drop] at hj
      rw [List.getElem_drop]
      have := hgt (k + j) (by omega) (by omega)
      rw [hd _ (by omega)] at this
      omega
    rw [List.append_assoc, List.pairwise_append]
    refine ⟨hs.sublist (List.take_sublist _ _), ?_, ?_⟩
    · rw [List.singleton_append, List.pairwise_cons]
      exact ⟨hhi, hs.sublist (List.drop_sublist _ _)⟩
    · intro x hx y hy
      rw [List.singleton_append, List.mem_cons] at hy
      rcases hy with rfl | hy
      · exact hlo x hx
      · have h1 := hlo x hx; have h2 := hhi y hy; omega
theorem gt_step {os l : List Int} {i k : Nat} (h0 : 0 < k) (hgt : ∀ j, k ≤ j → j < os.length → l.getD i 0 < os.getD j 0) (hx : l.getD i 0 < os.getD (k - 1) 0) : ∀ j, k - 1 ≤ j → j < os.length → l.getD i 0 < os.getD j 0 := by
  intro j h1 h2
  rcases Nat.lt_or_ge j k with q | q
  · obtain rfl : j = k - 1 := by omega
    exact hx
  · exact hgt j q h2
theorem rise_fin {os l : List Int} (hp : os.Perm l) (hs : os.Pairwise (· ≤ ·)) : os = sortInts l := by rw [← sortInts_perm hp, sortInts_id hs]

theorem rising_spec {K : Key} {w : World} {h M : PH} (G : Wld K w h M) {a : Option Addr} {l : List Int} {c : Nat} (Hl : RS h intE a l) (hb : l.length ≤ 1000) :
    Calls Try.prog 18 #[.slice a l.length c] w (Ret K h M fun h' v => ∃ a' c', v = .slice a' (sortInts l).length c' ∧ RS h' intE a' (sortInts l)) := by
  refine enter (l := [(.slice a l.length c)]) Try.func18 rfl Try.ntmps18 (Nat.le_of_ble_eq_true rfl) ?_
  simp only [params]
  refine CW.seq ?_
  refine CW.region ?_
  refine WL.q (.slice none 0 0) (by kernel_rfl) rfl (by kernel_rfl) (by kernel_rfl) ?_
  refine WL.nil ?_
  refine EX.then_code ?_
  refine CW.seq ?_
  refine CW.region ?_
  refine WL.q (.slice none 0 0) (by kernel_rfl) rfl (by kernel_rfl) (by kernel_rfl) ?_
  refine WL.nil ?_
  refine EX.then_code ?_
  refine CW.seq ?_
  refine CW.seq ?_
  refine CW.region ?_
  refine WL.q (.int .i64 0) (by kernel_rfl) rfl (by kernel_rfl) (by kernel_rfl) ?_
  refine WL.nil ?_
  refine EX.then_code ?_
  refine CW.block ?_
  refine CW.loop (β := Nat × List Int × Option Addr × Nat) (fun x_ => [(0, (.slice a l.length c)), (2, (.slice none 0 0)), (3, (.slice x_.2.2.1 x_.2.1.length x_.2.2.2)), (4, (.int .i64 (x_.1 : Int)))]) (fun x_ w_ => ∃ h_, (PH.le h h_) ∧ (Wld K w_ h_ M) ∧ (RS h_ intE x_.2.2.1 x_.2.1) ∧ (x_.1 ≤ l.length) ∧ (x_.2.1.Perm (l.take x_.1)) ∧ (x_.2.1.Pairwise (· ≤ ·)) ∧ (x_.2.1.length ≤ x_.2.2.2)) (fun x_ => l.length - x_.1) ⟨0, [], none, 0⟩ ⟨(by kernel_rfl), (by kernel_rfl), (by kernel_rfl), (lk_int (x := 0) (by kernel_rfl) (by first | omega | (dsimp only; omega) | rfl | (dsimp only; rfl))), trivial⟩ ⟨h, (PH.le_refl _), G, (RS.nil _ _ _), (by first | omega | assumption | (dsimp only [List.length_nil, List.length_append, List.length_cons]; omega)), (List.Perm.refl _), List.Pairwise.nil, (Nat.le_refl _)⟩ ?_
  rintro ⟨i, os, ao, co⟩ w1 ⟨h1, l1, G1, f_out1, hi, hp, hs, hco⟩
  try dsimp only at *
  have hol := hp.length_eq
  rw [List.length_take] at hol
  refine CW.seq ?_
  refine CW.seq ?_
  refine CW.region ?_
  refine WL.q (.int .i64 (i : Int)) (by kernel_rfl) rfl (by kernel_rfl) (by kernel_rfl) ?_
  refine WL.q (.slice a l.length c) (by kernel_rfl) rfl (by kernel_rfl) (by kernel_rfl) ?_
  refine WL.q (.int .i64 (l.length : Int)) (by kernel_rfl) rfl (by kernel_rfl) (by kernel_rfl) ?_
  refine WL.q (.bool (decide ((i : Int) < (l.length : Int)))) (by kernel_rfl) rfl (by kernel_rfl) (by kernel_rfl) ?_
  refine WL.nil ?_
  refine EX.then_code ?_
  refine CW.cond (decide ((i : Int) < (l.length : Int))) (by kernel_rfl) (by kernel_rfl) (fun c2 => ?_) (fun c2 => ?_)
  ·
    skip
    have d3 := of_decide_eq_true c2
    refine CW.skip ?_
    refine EX.then_code ?_
    refine CW.seq ?_
    refine CW.block ?_
    refine CW.seq ?_
    refine CW.region ?_
    refine WL.q (.slice ao os.length co) (by kernel_rfl) rfl (by kernel_rfl) (by kernel_rfl) ?_
    refine WL.q (.int .i64 (os.length : Int)) (by kernel_rfl) rfl (by kernel_rfl) (by kernel_rfl) ?_
    refine WL.q (.int .i64 (os.length : Int)) (by kernel_rfl) rfl (by kernel_rfl) (by kernel_rfl) ?_
    refine WL.nil ?_
    refine EX.then_code ?_
    refine CW.seq ?_
    refine CW.block ?_
    refine CW.loop (β := Nat) (fun x_ => [(0, (.slice a l.length c)), (2, (.slice none 0 0)), (3, (.slice ao os.length co)), (4, (.int .i64 (i : Int))), (5, (.int .i64 (x_ : Int)))]) (fun x_ w_ => ∃ h_, (PH.le h1 h_) ∧ (Wld K w_ h_ M) ∧ (x_ ≤ os.length) ∧ (∀ j, x_ ≤ j → j < os.length → l.getD i 0 < os.getD j 0)) (fun x_ => x_) os.length ⟨(by kernel_rfl), (by kernel_rfl), (by kernel_rfl), (by kernel_rfl), (by kernel_rfl), trivial⟩ ⟨h1, (PH.le_refl _), G1, (Nat.le_refl _), (fun j h1 h2 => absurd h2 (by omega))⟩ ?_
    rintro k w4 ⟨h4, l4, G4, hk, hgt⟩
    try dsimp only at *
    refine CW.seq ?_
    refine CW.seq ?_
    refine CW.draw (by kernel_rfl) [(7, fun w_ => RS (PH.all w_) intE ao os), (11, fun w_ => RS (PH.all w_) intE a l)] ?_
    refine DW.take (T := fun _ => True) 0 (.int .i64 (k : Int)) rfl (by kernel_rfl) rfl (by kernel_rfl) (.inl fun _ => trivial) (by kernel_rfl) (Deaf.thens (Deaf.thens (Deaf.thens (Deaf.block (Deaf.thens (Deaf.block (Deaf.thens (Deaf.thens (Deaf.block (Deaf.thens (Deaf.body RetM.not_panicked))))))))))) (fun w_ _ => (by kernel_rfl)) trivial ?_
    refine DW.take (T := fun _ => True) 1 (.bool (decide ((k : Int) > 0))) rfl (by kernel_rfl) rfl (by kernel_rfl) (.inl fun _ => trivial) (by kernel_rfl) (Deaf.thens (Deaf.thens (Deaf.thens (Deaf.block (Deaf.thens (Deaf.block (Deaf.thens (Deaf.thens (Deaf.block (Deaf.thens (Deaf.body RetM.not_panicked))))))))))) (fun w_ _ => (by kernel_rfl)) trivial ?_
    refine DW.take (T := fun _ => True) 2 (.bool (decide ((k : Int) > 0))) rfl (by kernel_rfl) rfl (by kernel_rfl) (.inl fun _ => trivial) (by kernel_rfl) (Deaf.thens (Deaf.thens (Deaf.thens (Deaf.block (Deaf.thens (Deaf.block (Deaf.thens (Deaf.thens (Deaf.block (Deaf.thens (Deaf.body RetM.not_panicked))))))))))) (fun w_ _ => (by kernel_rfl)) trivial ?_
    rcases bool_cases (decide ((k : Int) > 0)) with c5 | c5
    ·
      skip
      have d6 := of_decide_eq_true c5
      refine DW.know 17 (.bool true) (x := .bool (decide ((k : Int) > 0))) (by kernel_rfl) (congrArg Value.bool c5) ?_
      refine DW.take (T := fun _ => True) 3 (.slice ao os.length co) rfl (by kernel_rfl) rfl (by kernel_rfl) (.inl fun _ => trivial) (by kernel_rfl) (Deaf.thens (Deaf.thens (Deaf.thens (Deaf.block (Deaf.thens (Deaf.block (Deaf.thens (Deaf.thens (Deaf.block (Deaf.thens (Deaf.body RetM.not_panicked))))))))))) (fun w_ _ => (by kernel_rfl)) trivial ?_
      refine DW.take (T := fun _ => True) 4 (.int .i64 (k : Int)) rfl (by kernel_rfl) rfl (by kernel_rfl) (.inl fun _ => trivial) (by kernel_rfl) (Deaf.thens (Deaf.thens (Deaf.thens (Deaf.block (Deaf.thens (Deaf.block (Deaf.thens (Deaf.thens (Deaf.block (Deaf.thens (Deaf.body RetM.not_panicked))))))))))) (fun w_ _ => (by kernel_rfl)) trivial ?_
      refine DW.take (T := fun _ => True) 5 (.int .i64 ((k : Int) - 1)) rfl (by kernel_rfl) rfl (by kernel_rfl) (.inl fun _ => trivial) (by kernel_rfl) (Deaf.thens (Deaf.thens (Deaf.thens (Deaf.block (Deaf.thens (Deaf.block (Deaf.thens (Deaf.thens (Deaf.block (Deaf.thens (Deaf.body RetM.not_panicked))))))))))) (fun w_ _ => (q_int (x := IntKind.i64.wrap ((k : Int) - 1)) (by kernel_rfl) (wrap_to (by omega) (by omega) (by omega)))) trivial ?_
      refine DW.take (T := fun _ => True) 6 (eptr ao ((((k : Int) - 1).toNat) * intE.sz)) rfl (by kernel_rfl) rfl (by kernel_rfl) (.inl fun _ => trivial) (by kernel_rfl) (Deaf.thens (Deaf.thens (Deaf.thens (Deaf.block (Deaf.thens (Deaf.block (Deaf.thens (Deaf.thens (Deaf.block (Deaf.thens (Deaf.body RetM.not_panicked))))))))))) (fun w_ _ => (q_indexAddr (i := (((k : Int) - 1).toNat)) (E := intE) (xs := os) (e := 3) (c := co) (k := .i64) (m := os.length) rfl rfl (by kernel_rfl) (by kernel_rfl) ((show _ = Value.int .i64 ((k : Int) - 1) by kernel_rfl).trans (congrArg (Value.int .i64) (by omega))) (f_out1.mono (l4.trans (G4.drew).imm)) (by omega))) trivial ?_
      refine DW.take (T := fun w_ => RS (PH.all w_) intE ao os) 7 (.int .i64 (os.getD (((k : Int) - 1).toNat) intE.dflt)) rfl (by kernel_rfl) rfl (by kernel_rfl) (.inr (by first | exact .head _ | exact .tail _ (.head _) | exact .tail _ (.tail _ (.head _)) | exact .tail _ (.tail _ (.tail _ (.head _))) | simp)) (by kernel_rfl) (Deaf.thens (Deaf.thens (Deaf.thens (Deaf.block (Deaf.thens (Deaf.block (Deaf.thens (Deaf.thens (Deaf.block (Deaf.thens (Deaf.body RetM.not_panicked))))))))))) (fun w_ T_ => (q_load_e (i := (((k : Int) - 1).toNat)) (k := 0) (E := intE) rfl (by kernel_rfl) (by kernel_rfl) T_ (by omega) (by decide) (by kernel_rfl))) (f_out1.mono (l4.trans (G4.drew).imm)) ?_
      refine DW.take (T := fun _ => True) 8 (.slice a l.length c) rfl (by kernel_rfl) rfl (by kernel_rfl) (.inl fun _ => trivial) (by kernel_rfl) (Deaf.thens (Deaf.thens (Deaf.thens (Deaf.block (Deaf.thens (Deaf.block (Deaf.thens (Deaf.thens (Deaf.block (Deaf.thens (Deaf.body RetM.not_panicked))))))))))) (fun w_ _ => (by kernel_rfl)) trivial ?_
      refine DW.take (T := fun _ => True) 9 (.int .i64 (i : Int)) rfl (by kernel_rfl) rfl (by kernel_rfl) (.inl fun _ => trivial) (by kernel_rfl) (Deaf.thens (Deaf.thens (Deaf.thens (Deaf.block (Deaf.thens (Deaf.block (Deaf.thens (Deaf.thens (Deaf.block (Deaf.thens (Deaf.body RetM.not_panicked))))))))))) (fun w_ _ => (by kernel_rfl)) trivial ?_
      refine DW.take (T := fun _ => True) 10 (eptr a (i * intE.sz)) rfl (by kernel_rfl) rfl (by kernel_rfl) (.inl fun _ => trivial) (by kernel_rfl) (Deaf.thens (Deaf.thens (Deaf.thens (Deaf.block (Deaf.thens (Deaf.block (Deaf.thens (Deaf.thens (Deaf.block (Deaf.thens (Deaf.body RetM.not_panicked))))))))))) (fun w_ _ => (q_indexAddr (i := i) (E := intE) (xs := l) (e := 3) (c := c) (k := .i64) (m := l.length) rfl rfl (by kernel_rfl) (by kernel_rfl) (by kernel_rfl) (Hl.mono ((l1.trans l4).trans (G4.drew).imm)) (by omega))) trivial ?_
      refine DW.take (T := fun w_ => RS (PH.all w_) intE a l) 11 (.int .i64 (l.getD i intE.dflt)) rfl (by kernel_rfl) rfl (by kernel_rfl) (.inr (by first | exact .head _ | exact .tail _ (.head _) | exact .tail _ (.tail _ (.head _)) | exact .tail _ (.tail _ (.tail _ (.head _))) | simp)) (by kernel_rfl) (Deaf.thens (Deaf.thens (Deaf.thens (Deaf.block (Deaf.thens (Deaf.block (Deaf.thens (Deaf.thens (Deaf.block (Deaf.thens (Deaf.body RetM.not_panicked))))))))))) (fun w_ T_ => (q_load_e (i := i) (k := 0) (E := intE) rfl (by kernel_rfl) (by kernel_rfl) T_ (by omega) (by decide) (by kernel_rfl))) (Hl.mono ((l1.trans l4).trans (G4.drew).imm)) ?_
      refine DW.take (T := fun _ => True) 12 (.bool (decide ((os.getD (((k : Int) - 1).toNat) intE.dflt) > (l.getD i intE.dflt)))) rfl (by kernel_rfl) rfl (by kernel_rfl) (.inl fun _ => trivial) (by kernel_rfl) (Deaf.thens (Deaf.thens (Deaf.thens (Deaf.block (Deaf.thens (Deaf.block (Deaf.thens (Deaf.thens (Deaf.block (Deaf.thens (Deaf.body RetM.not_panicked))))))))))) (fun w_ _ => (by kernel_rfl)) trivial ?_
      refine DW.take (T := fun _ => True) 13 (.bool (decide ((os.getD (((k : Int) - 1).toNat) intE.dflt) > (l.getD i intE.dflt)))) rfl (by kernel_rfl) rfl (by kernel_rfl) (.inl fun _ => trivial) (by kernel_rfl) (Deaf.thens (Deaf.thens (Deaf.thens (Deaf.block (Deaf.thens (Deaf.block (Deaf.thens (Deaf.thens (Deaf.block (Deaf.thens (Deaf.body RetM.not_panicked))))))))))) (fun w_ _ => (by kernel_rfl)) trivial ?_
      refine DW.done (by kernel_rfl) ?_
      refine EX.then_code ?_
      refine CW.cond (decide ((os.getD (((k : Int) - 1).toNat) intE.dflt) > (l.getD i intE.dflt))) (by kernel_rfl) (by kernel_rfl) (fun c7 => ?_) (fun c7 => ?_)
      ·
        skip
        have d8 := of_decide_eq_true c7
        refine CW.skip ?_
        refine EX.then_code ?_
        refine CW.block ?_
        refine CW.region ?_
        refine WL.q (.int .i64 (k : Int)) (by kernel_rfl) rfl (by kernel_rfl) (by kernel_rfl) ?_
        refine WL.q (.int .i64 ((k : Int) - 1)) (by kernel_rfl) rfl (by kernel_rfl) (q_int (x := IntKind.i64.wrap ((k : Int) - 1)) (by kernel_rfl) (wrap_to (by omega) (by omega) (by omega))) ?_
        refine WL.q (.int .i64 ((k : Int) - 1)) (by kernel_rfl) rfl (by kernel_rfl) (by kernel_rfl) ?_
        refine WL.nil ?_
        refine EX.in_block ?_
        exact EX.then_loop (k - 1) ⟨(by kernel_rfl), (by kernel_rfl), (by kernel_rfl), (by kernel_rfl), (lk_int (x := (k : Int) - 1) (by kernel_rfl) (by first | omega | (dsimp only; omega) | rfl | (dsimp only; rfl))), trivial⟩ ⟨h4, l4, (G4.drew), (by first | omega | assumption | (dsimp only [List.length_nil, List.length_append, List.length_cons]; omega)), (gt_step (by omega) hgt (by rw [show k - 1 = ((k : Int) - 1).toNat by omega]; show l.getD i intE.dflt < os.getD ((k : Int) - 1).toNat intE.dflt; first | assumption | omega))⟩ (by first | omega | (dsimp only; omega))
      ·
        skip
        have d9 := of_decide_eq_false c7
        refine CW.exit ?_
        refine EX.exit_then ?_
        refine EX.exit_then ?_
        refine EX.exit_here ?_
        refine EX.then_code ?_
        refine CW.seq ?_
        refine CW.draw (by kernel_rfl) [(8, fun w_ => RS (PH.all w_) intE a l)] ?_
        refine DW.take (T := fun _ => True) 1 (.slice ao os.length co) rfl (by kernel_rfl) rfl (by kernel_rfl) (.inl fun _ => trivial) (by kernel_rfl) (Deaf.thens (Deaf.block (Deaf.thens (Deaf.thens (Deaf.block (Deaf.thens (Deaf.body RetM.not_panicked))))))) (fun w_ _ => (by kernel_rfl)) trivial ?_
        refine DW.take (T := fun _ => True) 2 (.int .i64 (k : Int)) rfl (by kernel_rfl) rfl (by kernel_rfl) (.inl fun _ => trivial) (by kernel_rfl) (Deaf.thens (Deaf.block (Deaf.thens (Deaf.thens (Deaf.block (Deaf.thens (Deaf.body RetM.not_panicked))))))) (fun w_ _ => (by kernel_rfl)) trivial ?_
        refine DW.take (T := fun _ => True) 3 (.slice ao (((os.take k)).length) co) rfl (by kernel_rfl) rfl (by kernel_rfl) (.inl fun _ => trivial) (by kernel_rfl) (Deaf.thens (Deaf.block (Deaf.thens (Deaf.thens (Deaf.block (Deaf.thens (Deaf.body RetM.not_panicked))))))) (fun w_ _ => (q_val (q_upto (e := 3) (sz := 1) (len := os.length) (cap := co) (k := .i64) rfl (by kernel_rfl) (by kernel_rfl) (by kernel_rfl) (Nat.le_trans (show k ≤ os.length by omega) (by omega))) (by rw [List.length_take, Nat.min_eq_left (by omega)]))) trivial ?_
        refine DW.take (T := fun _ => True) 5 (.slice a l.length c) rfl (by kernel_rfl) rfl (by kernel_rfl) (.inl fun _ => trivial) (by kernel_rfl) (Deaf.thens (Deaf.block (Deaf.thens (Deaf.thens (Deaf.block (Deaf.thens (Deaf.body RetM.not_panicked))))))) (fun w_ _ => (by kernel_rfl)) trivial ?_
        refine DW.take (T := fun _ => True) 6 (.int .i64 (i : Int)) rfl (by kernel_rfl) rfl (by kernel_rfl) (.inl fun _ => trivial) (by kernel_rfl) (Deaf.thens (Deaf.block (Deaf.thens (Deaf.thens (Deaf.block (Deaf.thens (Deaf.body RetM.not_panicked))))))) (fun w_ _ => (by kernel_rfl)) trivial ?_
        refine DW.take (T := fun _ => True) 7 (eptr a (i * intE.sz)) rfl (by kernel_rfl) rfl (by kernel_rfl) (.inl fun _ => trivial) (by kernel_rfl) (Deaf.thens (Deaf.block (Deaf.thens (Deaf.thens (Deaf.block (Deaf.thens (Deaf.body RetM.not_panicked))))))) (fun w_ _ => (q_indexAddr (i := i) (E := intE) (xs := l) (e := 3) (c := c) (k := .i64) (m := l.length) rfl rfl (by kernel_rfl) (by kernel_rfl) (by kernel_rfl) (Hl.mono ((l1.trans l4).trans ((G4.drew).drew).imm)) (by omega))) trivial ?_
        refine DW.take (T := fun w_ => RS (PH.all w_) intE a l) 8 (.int .i64 (l.getD i intE.dflt)) rfl (by kernel_rfl) rfl (by kernel_rfl) (.inr (by first | exact .head _ | exact .tail _ (.head _) | exact .tail _ (.tail _ (.head _)) | exact .tail _ (.tail _ (.tail _ (.head _))) | simp)) (by kernel_rfl) (Deaf.thens (Deaf.block (Deaf.thens (Deaf.thens (Deaf.block (Deaf.thens (Deaf.body RetM.not_panicked))))))) (fun w_ T_ => (q_load_e (i := i) (k := 0) (E := intE) rfl (by kernel_rfl) (by kernel_rfl) T_ (by omega) (by decide) (by kernel_rfl))) (Hl.mono ((l1.trans l4).trans ((G4.drew).drew).imm)) ?_
        refine DW.two 0 9 (by kernel_rfl) ?_ ?_
        ·
          skip
          refine DOp.ex rfl (by kernel_rfl) rfl (by kernel_rfl) (q_newB (ob := (.cells #[] 3 (0, 0))) ((G4.drew).drew) (fun b_ => .slice (some ⟨b_, 0, none⟩) 0 0) (fun u_ => by kernel_rfl)) (fun v_ w10 p_ => by obtain ⟨b10, M10, rfl, G10, B10, L10⟩ := p_; exact ⟨.inr (fun _ => (Hl.mono ((l1.trans l4).trans G10.imm))), trivial⟩) ?_
          rintro _ w10 ⟨b10, M10, rfl, G10, B10, L10⟩
          have o10 : Own 3 intE M M10 (some ⟨b10, 0, none⟩) 0 ([] : List _) := Own.lit2 B10 (by kernel_rfl) (by kernel_rfl) (by decide)
          refine DW.two 4 9 (by kernel_rfl) ?_ ?_
          ·
            skip
            refine DOp.ex rfl (by kernel_rfl) rfl (by kernel_rfl) (q_app (e := 3) (bytes := 8) (cap := 0) (c2 := co) (M0 := M) (xs := ([] : List _)) (ys := (os.take k)) G10 o10 ((f_out1.upto k).mono (l4.trans G10.imm)) rfl (by kernel_rfl) (by kernel_rfl) (by kernel_rfl) (by simp only [maxLen, List.length_append, List.length_cons, List.length_nil, List.length_take, List.length_drop]; omega) (by simp only [List.length_append, List.length_cons, List.length_nil, List.length_take, List.length_drop]; omega)) (fun v_ w11 p_ => by obtain ⟨a11, k11, M11, rfl, G11, o11, z11⟩ := p_; exact ⟨.inr (fun _ => (Hl.mono ((l1.trans l4).trans G11.imm))), trivial⟩) ?_
            rintro _ w11 ⟨a11, k11, M11, rfl, G11, o11, z11⟩
            refine DW.only 9 (by kernel_rfl) ?_
            refine DOp.ex rfl (by kernel_rfl) rfl (by kernel_rfl) (q_newF (ob := (.cells #[(.int .i64 (l.getD i intE.dflt))] 3 (0, 0))) G11 (fun b_ => .slice (some ⟨b_, 0, none⟩) 1 1) (fun u_ => by kernel_rfl)) (fun v_ w12 p_ => by obtain ⟨b12, h12, rfl, l12, G12, hb12, L12⟩ := p_; exact ⟨.inl (by kernel_rfl), trivial⟩) ?_
            rintro _ w12 ⟨b12, h12, rfl, l12, G12, hb12, L12⟩
            have r13 : RS h12 intE (some ⟨b12, 0, none⟩) [(l.getD i intE.dflt)] := RS.blk hb12 (by kernel_rfl)
            refine DW.only 10 (by kernel_rfl) ?_
            refine DOp.ex rfl (by kernel_rfl) rfl (by kernel_rfl) (q_app (e := 3) (bytes := 8) (cap := k11) (c2 := 1) (M0 := M) (xs := ([] ++ (os.take k))) (ys := ([(l.getD i intE.dflt)])) G12 o11 (r13.mono ((PH.le_refl _).trans G12.imm)) rfl (by kernel_rfl) (by kernel_rfl) (by kernel_rfl) (by simp only [maxLen, List.length_append, List.length_cons, List.length_nil, List.length_take, List.length_drop]; omega) (by simp only [List.length_append, List.length_cons, List.length_nil, List.length_take, List.length_drop]; omega)) (fun v_ w14 p_ => by obtain ⟨a14, k14, M14, rfl, G14, o14, z14⟩ := p_; exact ⟨.inr (fun _ => (Hl.mono (((l1.trans l4).trans l12).trans G14.imm))), trivial⟩) ?_
            rintro _ w14 ⟨a14, k14, M14, rfl, G14, o14, z14⟩
            refine DW.take (T := fun _ => True) 11 (.slice a14 ((([] ++ (os.take k)) ++ ([(l.getD i intE.dflt)])).length) k14) rfl (by kernel_rfl) rfl (by kernel_rfl) (.inl fun _ => trivial) (by kernel_rfl) (Deaf.thens (Deaf.block (Deaf.thens (Deaf.thens (Deaf.block (Deaf.thens (Deaf.body RetM.not_panicked))))))) (fun w_ _ => (by kernel_rfl)) trivial ?_
            refine DW.done (by kernel_rfl) ?_
            refine EX.then_code ?_
            refine CW.region ?_
            refine WL.q (.slice a14 ((([] ++ (os.take k)) ++ ([(l.getD i intE.dflt)])).length) k14) (by kernel_rfl) rfl (by kernel_rfl) (by kernel_rfl) ?_
            refine WL.q (.slice ao os.length co) (by kernel_rfl) rfl (by kernel_rfl) (by kernel_rfl) ?_
            refine WL.q (.int .i64 (k : Int)) (by kernel_rfl) rfl (by kernel_rfl) (by kernel_rfl) ?_
            refine WL.q (.slice (aft ao co k 1) (((os.drop k)).length) (co - k)) (by kernel_rfl) rfl (by kernel_rfl) (q_val (q_from (e := 3) (sz := 1) (len := os.length) (cap := co) (lo := k) (k := .i64) rfl (by kernel_rfl) (by kernel_rfl) (by kernel_rfl) (show k ≤ os.length by omega)) (by rw [List.length_drop])) ?_
            refine WL.ex (by kernel_rfl) rfl (by kernel_rfl) (q_app (e := 3) (bytes := 8) (cap := k14) (c2 := (co - k)) (M0 := M) (xs := (([] ++ (os.take k)) ++ ([(l.getD i intE.dflt)]))) (ys := (os.drop k)) G14 o14 ((f_out1.aft (cap := co) (show k ≤ os.length by omega) (by omega)).mono ((l4.trans l12).trans G14.imm)) rfl (by kernel_rfl) (by kernel_rfl) (by kernel_rfl) (by simp only [maxLen, List.length_append, List.length_cons, List.length_nil, List.length_take, List.length_drop]; omega) (by simp only [List.length_append, List.length_cons, List.length_nil, List.length_take, List.length_drop]; omega)) ?_
            rintro _ w15 ⟨a15, k15, M15, rfl, G15, o15, z15⟩
            refine WL.q (.slice a15 (((([] ++ (os.take k)) ++ ([(l.getD i intE.dflt)])) ++ (os.drop k)).length) k15) (by kernel_rfl) rfl (by kernel_rfl) (by kernel_rfl) ?_
            refine WL.nil ?_
            refine EX.in_block ?_
            refine EX.then_code ?_
            refine CW.region ?_
            refine WL.q (.int .i64 (i : Int)) (by kernel_rfl) rfl (by kernel_rfl) (by kernel_rfl) ?_
            refine WL.q (.int .i64 ((i + 1 : Nat) : Int)) (by kernel_rfl) rfl (by kernel_rfl) (q_int (x := IntKind.i64.wrap ((i : Int) + 1)) (by kernel_rfl) (wrap_to (by omega) (by omega) (by omega))) ?_
            refine WL.q (.int .i64 ((i + 1 : Nat) : Int)) (by kernel_rfl) rfl (by kernel_rfl) (by kernel_rfl) ?_
            refine WL.nil ?_
            have hcap := o15.cap_le
            obtain ⟨h16, l16, G16, r16⟩ := o15.freeze G15
            have hle : k = 0 ∨ os.getD (k - 1) 0 ≤ l.getD i 0 := by first | exact .inl (by omega) | (exact .inr (by rw [show k - 1 = ((k : Int) - 1).toNat by omega]; show os.getD ((k : Int) - 1).toNat intE.dflt ≤ l.getD i intE.dflt; first | assumption | omega))
            obtain ⟨hp2, hs2⟩ := ins_ok (by omega) hk hp hs hgt hle
            have hnx : ((([] ++ (os.take k)) ++ ([(l.getD i intE.dflt)])) ++ (os.drop k)) = os.take k ++ [l.getD i 0] ++ os.drop k := by simp [intE]
            exact EX.then_loop ⟨i + 1, ((([] ++ (os.take k)) ++ ([(l.getD i intE.dflt)])) ++ (os.drop k)), a15, k15⟩ ⟨(by kernel_rfl), (by kernel_rfl), (by kernel_rfl), (lk_int (x := ((i + 1 : Nat) : Int)) (by kernel_rfl) (by first | omega | (dsimp only; omega) | rfl | (dsimp only; rfl))), trivial⟩ ⟨h16, (((l1.trans l4).trans l12).trans l16), G16, (r16.mono (PH.le_refl _)), (by first | omega | assumption | (dsimp only [List.length_nil, List.length_append, List.length_cons]; omega)), (hnx ▸ hp2), (hnx ▸ hs2), hcap⟩ (by first | omega | (dsimp only; omega))
          ·
            skip
            refine DOp.ex rfl (by kernel_rfl) rfl (by kernel_rfl) (q_newF (ob := (.cells #[(.int .i64 (l.getD i intE.dflt))] 3 (0, 0))) G10 (fun b_ => .slice (some ⟨b_, 0, none⟩) 1 1) (fun u_ => by kernel_rfl)) (fun v_ w17 p_ => by obtain ⟨b17, h17, rfl, l17, G17, hb17, L17⟩ := p_; exact ⟨.inl (by kernel_rfl), trivial⟩) ?_
            rintro _ w17 ⟨b17, h17, rfl, l17, G17, hb17, L17⟩
            have r18 : RS h17 intE (some ⟨b17, 0, none⟩) [(l.getD i intE.dflt)] := RS.blk hb17 (by kernel_rfl)
            refine DW.only 4 (by kernel_rfl) ?_
            refine DOp.ex rfl (by kernel_rfl) rfl (by kernel_rfl) (q_app (e := 3) (bytes := 8) (cap := 0) (c2 := co) (M0 := M) (xs := ([] : List _)) (ys := (os.take k)) G17 o10 ((f_out1.upto k).mono ((l4.trans l17).trans G17.imm)) rfl (by kernel_rfl) (by kernel_rfl) (by kernel_rfl) (by simp only [maxLen, List.length_append, List.length_cons, List.length_nil, List.length_take, List.length_drop]; omega) (by simp only [List.length_append, List.length_cons, List.length_nil, List.length_take, List.length_drop]; omega)) (fun v_ w19 p_ => by obtain ⟨a19, k19, M19, rfl, G19, o19, z19⟩ := p_; exact ⟨.inr (fun _ => (Hl.mono (((l1.trans l4).trans l17).trans G19.imm))), trivial⟩) ?_
            rintro _ w19 ⟨a19, k19, M19, rfl, G19, o19, z19⟩
            refine DW.only 10 (by kernel_rfl) ?_
            refine DOp.ex rfl (by kernel_rfl) rfl (by kernel_rfl) (q_app (e := 3) (bytes := 8) (cap := k19) (c2 := 1) (M0 := M) (xs := ([] ++ (os.take k))) (ys := ([(l.getD i intE.dflt)])) G19 o19 (r18.mono ((PH.le_refl _).trans G19.imm)) rfl (by kernel_rfl) (by kernel_rfl) (by kernel_rfl) (by simp only [maxLen, List.length_append, List.length_cons, List.length_nil, List.length_take, List.length_drop]; omega) (by simp only [List.length_append, List.length_cons, List.length_nil, List.length_take, List.length_drop]; omega)) (fun v_ w20 p_ => by obtain ⟨a20, k20, M20, rfl, G20, o20, z20⟩ := p_; exact ⟨.inr (fun _ => (Hl.mono (((l1.trans l4).trans l17).trans G20.imm))), trivial⟩) ?_
            rintro _ w20 ⟨a20, k20, M20, rfl, G20, o20, z20⟩
            refine DW.take (T := fun _ => True) 11 (.slice a20 ((([] ++ (os.take k)) ++ ([(l.getD i intE.dflt)])).length) k20) rfl (by kernel_rfl) rfl (by kernel_rfl) (.inl fun _ => trivial) (by kernel_rfl) (Deaf.thens (Deaf.block (Deaf.thens (Deaf.thens (Deaf.block (Deaf.thens (Deaf.body RetM.not_panicked))))))) (fun w_ _ => (by kernel_rfl)) trivial ?_
            refine DW.done (by kernel_rfl) ?_
            refine EX.then_code ?_
            refine CW.region ?_
            refine WL.q (.slice a20 ((([] ++ (os.take k)) ++ ([(l.getD i intE.dflt)])).length) k20) (by kernel_rfl) rfl (by kernel_rfl) (by kernel_rfl) ?_
            refine WL.q (.slice ao os.length co) (by kernel_rfl) rfl (by kernel_rfl) (by kernel_rfl) ?_
            refine WL.q (.int .i64 (k : Int)) (by kernel_rfl) rfl (by kernel_rfl) (by kernel_rfl) ?_
            refine WL.q (.slice (aft ao co k 1) (((os.drop k)).length) (co - k)) (by kernel_rfl) rfl (by kernel_rfl) (q_val (q_from (e := 3) (sz := 1) (len := os.length) (cap := co) (lo := k) (k := .i64) rfl (by kernel_rfl) (by kernel_rfl) (by kernel_rfl) (show k ≤ os.length by omega)) (by rw [List.length_drop])) ?_
            refine WL.ex (by kernel_rfl) rfl (by kernel_rfl) (q_app (e := 3) (bytes := 8) (cap := k20) (c2 := (co - k)) (M0 := M) (xs := (([] ++ (os.take k)) ++ ([(l.getD i intE.dflt)]))) (ys := (os.drop k)) G20 o20 ((f_out1.aft (cap := co) (show k ≤ os.length by omega) (by omega)).mono ((l4.trans l17).trans G20.imm)) rfl (by kernel_rfl) (by kernel_rfl) (by kernel_rfl) (by simp only [maxLen, List.length_append, List.length_cons, List.length_nil, List.length_take, List.length_drop]; omega) (by simp only [List.length_append, List.length_cons, List.length_nil, List.length_take, List.length_drop]; omega)) ?_
            rintro _ w21 ⟨a21, k21, M21, rfl, G21, o21, z21⟩
            refine WL.q (.slice a21 (((([] ++ (os.take k)) ++ ([(l.getD i intE.dflt)])) ++ (os.drop k)).length) k21) (by kernel_rfl) rfl (by kernel_rfl) (by kernel_rfl) ?_
            refine WL.nil ?_
            refine EX.in_block ?_
            refine EX.then_code ?_
            refine CW.region ?_
            refine WL.q (.int .i64 (i : Int)) (by kernel_rfl) rfl (by kernel_rfl) (by kernel_rfl) ?_
            refine WL.q (.int .i64 ((i + 1 : Nat) : Int)) (by kernel_rfl) rfl (by kernel_rfl) (q_int (x := IntKind.i64.wrap ((i : Int) + 1)) (by kernel_rfl) (wrap_to (by omega) (by omega) (by omega))) ?_
            refine WL.q (.int .i64 ((i + 1 : Nat) : Int)) (by kernel_rfl) rfl (by kernel_rfl) (by kernel_rfl) ?_
            refine WL.nil ?_
            have hcap := o21.cap_le
            obtain ⟨h22, l22, G22, r22⟩ := o21.freeze G21
            have hle : k = 0 ∨ os.getD (k - 1) 0 ≤ l.getD i 0 := by first | exact .inl (by omega) | (exact .inr (by rw [show k - 1 = ((k : Int) - 1).toNat by omega]; show os.getD ((k : Int) - 1).toNat intE.dflt ≤ l.getD i intE.dflt; first | assumption | omega))
            obtain ⟨hp2, hs2⟩ := ins_ok (by omega) hk hp hs hgt hle
            have hnx : ((([] ++ (os.take k)) ++ ([(l.getD i intE.dflt)])) ++ (os.drop k)) = os.take k ++ [l.getD i 0] ++ os.drop k := by simp [intE]
            exact EX.then_loop ⟨i + 1, ((([] ++ (os.take k)) ++ ([(l.getD i intE.dflt)])) ++ (os.drop k)), a21, k21⟩ ⟨(by kernel_rfl), (by kernel_rfl), (by kernel_rfl), (lk_int (x := ((i + 1 : Nat) : Int)) (by kernel_rfl) (by first | omega | (dsimp only; omega) | rfl | (dsimp only; rfl))), trivial⟩ ⟨h22, (((l1.trans l4).trans l17).trans l22), G22, (r22.mono (PH.le_refl _)), (by first | omega | assumption | (dsimp only [List.length_nil, List.length_append, List.length_cons]; omega)), (hnx ▸ hp2), (hnx ▸ hs2), hcap⟩ (by first | omega | (dsimp only; omega))
        ·
          skip
          refine DOp.ex rfl (by kernel_rfl) rfl (by kernel_rfl) (q_newF (ob := (.cells #[(.int .i64 (l.getD i intE.dflt))] 3 (0, 0))) ((G4.drew).drew) (fun b_ => .slice (some ⟨b_, 0, none⟩) 1 1) (fun u_ => by kernel_rfl)) (fun v_ w23 p_ => by obtain ⟨b23, h23, rfl, l23, G23, hb23, L23⟩ := p_; exact ⟨.inl (by kernel_rfl), trivial⟩) ?_
          rintro _ w23 ⟨b23, h23, rfl, l23, G23, hb23, L23⟩
          have r24 : RS h23 intE (some ⟨b23, 0, none⟩) [(l.getD i intE.dflt)] := RS.blk hb23 (by kernel_rfl)
          refine DW.only 0 (by kernel_rfl) ?_
          refine DOp.ex rfl (by kernel_rfl) rfl (by kernel_rfl) (q_newB (ob := (.cells #[] 3 (0, 0))) G23 (fun b_ => .slice (some ⟨b_, 0, none⟩) 0 0) (fun u_ => by kernel_rfl)) (fun v_ w25 p_ => by obtain ⟨b25, M25, rfl, G25, B25, L25⟩ := p_; exact ⟨.inr (fun _ => (Hl.mono (((l1.trans l4).trans l23).trans G25.imm))), trivial⟩) ?_
          rintro _ w25 ⟨b25, M25, rfl, G25, B25, L25⟩
          have o25 : Own 3 intE M M25 (some ⟨b25, 0, none⟩) 0 ([] : List _) := Own.lit2 B25 (by kernel_rfl) (by kernel_rfl) (by decide)
          refine DW.only 4 (by kernel_rfl) ?_
          refine DOp.ex rfl (by kernel_rfl) rfl (by kernel_rfl) (q_app (e := 3) (bytes := 8) (cap := 0) (c2 := co) (M0 := M) (xs := ([] : List _)) (ys := (os.take k)) G25 o25 ((f_out1.upto k).mono ((l4.trans l23).trans G25.imm)) rfl (by kernel_rfl) (by kernel_rfl) (by kernel_rfl) (by simp only [maxLen, List.length_append, List.length_cons, List.length_nil, List.length_take, List.length_drop]; omega) (by simp only [List.length_append, List.length_cons, List.length_nil, List.length_take, List.length_drop]; omega)) (fun v_ w26 p_ => by obtain ⟨a26, k26, M26, rfl, G26, o26, z26⟩ := p_; exact ⟨.inr (fun _ => (Hl.mono (((l1.trans l4).trans l23).trans G26.imm))), trivial⟩) ?_
          rintro _ w26 ⟨a26, k26, M26, rfl, G26, o26, z26⟩
          refine DW.only 10 (by kernel_rfl) ?_
          refine DOp.ex rfl (by kernel_rfl) rfl (by kernel_rfl) (q_app (e := 3) (bytes := 8) (cap := k26) (c2 := 1) (M0 := M) (xs := ([] ++ (os.take k))) (ys := ([(l.getD i intE.dflt)])) G26 o26 (r24.mono ((PH.le_refl _).trans G26.imm)) rfl (by kernel_rfl) (by kernel_rfl) (by kernel_rfl) (by simp only [maxLen, List.length_append, List.length_cons, List.length_nil, List.length_take, List.length_drop]; omega) (by simp only [List.length_append, List.length_cons, List.length_nil, List.length_take, List.length_drop]; omega)) (fun v_ w27 p_ => by obtain ⟨a27, k27, M27, rfl, G27, o27, z27⟩ := p_; exact ⟨.inr (fun _ => (Hl.mono (((l1.trans l4).trans l23).trans G27.imm))), trivial⟩) ?_
          rintro _ w27 ⟨a27, k27, M27, rfl, G27, o27, z27⟩
          refine DW.take (T := fun _ => True) 11 (.slice a27 ((([] ++ (os.take k)) ++ ([(l.getD i intE.dflt)])).length) k27) rfl (by kernel_rfl) rfl (by kernel_rfl) (.inl fun _ => trivial) (by kernel_rfl) (Deaf.thens (Deaf.block (Deaf.thens (Deaf.thens (Deaf.block (Deaf.thens (Deaf.body RetM.not_panicked))))))) (fun w_ _ => (by kernel_rfl)) trivial ?_
          refine DW.done (by kernel_rfl) ?_
          refine EX.then_code ?_
          refine CW.region ?_
          refine WL.q (.slice a27 ((([] ++ (os.take k)) ++ ([(l.getD i intE.dflt)])).length) k27) (by kernel_rfl) rfl (by kernel_rfl) (by kernel_rfl) ?_
          refine WL.q (.slice ao os.length co) (by kernel_rfl) rfl (by kernel_rfl) (by kernel_rfl) ?_
          refine WL.q (.int .i64 (k : Int)) (by kernel_rfl) rfl (by kernel_rfl) (by kernel_rfl) ?_
          refine WL.q (.slice (aft ao co k 1) (((os.drop k)).length) (co - k)) (by kernel_rfl) rfl (by kernel_rfl) (q_val (q_from (e := 3) (sz := 1) (len := os.length) (cap := co) (lo := k) (k := .i64) rfl (by kernel_rfl) (by kernel_rfl) (by kernel_rfl) (show k ≤ os.length by omega)) (by rw [List.length_drop])) ?_
          refine WL.ex (by kernel_rfl) rfl (by kernel_rfl) (q_app (e := 3) (bytes := 8) (cap := k27) (c2 := (co - k)) (M0 := M) (xs := (([] ++ (os.take k)) ++ ([(l.getD i intE.dflt)]))) (ys := (os.drop k)) G27 o27 ((f_out1.aft (cap := co) (show k ≤ os.length by omega) (by omega)).mono ((l4.trans l23).trans G27.imm)) rfl (by kernel_rfl) (by kernel_rfl) (by kernel_rfl) (by simp only [maxLen, List.length_append, List.length_cons, List.length_nil, List.length_take, List.length_drop]; omega) (by simp only [List.length_append, List.length_cons, List.length_nil, List.length_take, List.length_drop]; omega)) ?_
          rintro _ w28 ⟨a28, k28, M28, rfl, G28, o28, z28⟩
          refine WL.q (.slice a28 (((([] ++ (os.take k)) ++ ([(l.getD i intE.dflt)])) ++ (os.drop k)).length) k28) (by kernel_rfl) rfl (by kernel_rfl) (by kernel_rfl) ?_
          refine WL.nil ?_
          refine EX.in_block ?_
          refine EX.then_code ?_
          refine CW.region ?_
          refine WL.q (.int .i64 (i : Int)) (by kernel_rfl) rfl (by kernel_rfl) (by kernel_rfl) ?_
          refine WL.q (.int .i64 ((i + 1 : Nat) : Int)) (by kernel_rfl) rfl (by kernel_rfl) (q_int (x := IntKind.i64.wrap ((i : Int) + 1)) (by kernel_rfl) (wrap_to (by omega) (by omega) (by omega))) ?_
          refine WL.q (.int .i64 ((i + 1 : Nat) : Int)) (by kernel_rfl) rfl (by kernel_rfl) (by kernel_rfl) ?_
          refine WL.nil ?_
          have hcap := o28.cap_le
          obtain ⟨h29, l29, G29, r29⟩ := o28.freeze G28
          have hle : k = 0 ∨ os.getD (k - 1) 0 ≤ l.getD i 0 := by first | exact .inl (by omega) | (exact .inr (by rw [show k - 1 = ((k : Int) - 1).toNat by omega]; show os.getD ((k : Int) - 1).toNat intE.dflt ≤ l.getD i intE.dflt; first | assumption | omega))
          obtain ⟨hp2, hs2⟩ := ins_ok (by omega) hk hp hs hgt hle
          have hnx : ((([] ++ (os.take k)) ++ ([(l.getD i intE.dflt)])) ++ (os.drop k)) = os.take k ++ [l.getD i 0] ++ os.drop k := by simp [intE]
          exact EX.then_loop ⟨i + 1, ((([] ++ (os.take k)) ++ ([(l.getD i intE.dflt)])) ++ (os.drop k)), a28, k28⟩ ⟨(by kernel_rfl), (by kernel_rfl), (by kernel_rfl), (lk_int (x := ((i + 1 : Nat) : Int)) (by kernel_rfl) (by first | omega | (dsimp only; omega) | rfl | (dsimp only; rfl))), trivial⟩ ⟨h29, (((l1.trans l4).trans l23).trans l29), G29, (r29.mono (PH.le_refl _)), (by first | omega | assumption | (dsimp only [List.length_nil, List.length_append, List.length_cons]; omega)), (hnx ▸ hp2), (hnx ▸ hs2), hcap⟩ (by first | omega | (dsimp only; omega))
    ·
      skip
      have d30 := of_decide_eq_false c5
      refine DW.know 17 (.bool false) (x := .bool (decide ((k : Int) > 0))) (by kernel_rfl) (congrArg Value.bool c5) ?_
      refine DW.skip 3 rfl (by kernel_rfl) rfl (by kernel_rfl) (by kernel_rfl) (Deaf.thens (Deaf.thens (Deaf.thens (Deaf.block (Deaf.thens (Deaf.block (Deaf.thens (Deaf.thens (Deaf.block (Deaf.thens (Deaf.body RetM.not_panicked))))))))))) ?_
      refine DW.skip 4 rfl (by kernel_rfl) rfl (by kernel_rfl) (by kernel_rfl) (Deaf.thens (Deaf.thens (Deaf.thens (Deaf.block (Deaf.thens (Deaf.block (Deaf.thens (Deaf.thens (Deaf.block (Deaf.thens (Deaf.body RetM.not_panicked))))))))))) ?_
      refine DW.skip 5 rfl (by kernel_rfl) rfl (by kernel_rfl) (by kernel_rfl) (Deaf.thens (Deaf.thens (Deaf.thens (Deaf.block (Deaf.thens (Deaf.block (Deaf.thens (Deaf.thens (Deaf.block (Deaf.thens (Deaf.body RetM.not_panicked))))))))))) ?_
      refine DW.skip 6 rfl (by kernel_rfl) rfl (by kernel_rfl) (by kernel_rfl) (Deaf.thens (Deaf.thens (Deaf.thens (Deaf.block (Deaf.thens (Deaf.block (Deaf.thens (Deaf.thens (Deaf.block (Deaf.thens (Deaf.body RetM.not_panicked))))))))))) ?_
      refine DW.skip 7 rfl (by kernel_rfl) rfl (by kernel_rfl) (by kernel_rfl) (Deaf.thens (Deaf.thens (Deaf.thens (Deaf.block (Deaf.thens (Deaf.block (Deaf.thens (Deaf.thens (Deaf.block (Deaf.thens (Deaf.body RetM.not_panicked))))))))))) ?_
      refine DW.skip 8 rfl (by kernel_rfl) rfl (by kernel_rfl) (by kernel_rfl) (Deaf.thens (Deaf.thens (Deaf.thens (Deaf.block (Deaf.thens (Deaf.block (Deaf.thens (Deaf.thens (Deaf.block (Deaf.thens (Deaf.body RetM.not_panicked))))))))))) ?_
      refine DW.skip 9 rfl (by kernel_rfl) rfl (by kernel_rfl) (by kernel_rfl) (Deaf.thens (Deaf.thens (Deaf.thens (Deaf.block (Deaf.thens (Deaf.block (Deaf.thens (Deaf.thens (Deaf.block (Deaf.thens (Deaf.body RetM.not_panicked))))))))))) ?_
      refine DW.skip 10 rfl (by kernel_rfl) rfl (by kernel_rfl) (by kernel_rfl) (Deaf.thens (Deaf.thens (Deaf.thens (Deaf.block (Deaf.thens (Deaf.block (Deaf.thens (Deaf.thens (Deaf.block (Deaf.thens (Deaf.body RetM.not_panicked))))))))))) ?_
      refine DW.skip 11 rfl (by kernel_rfl) rfl (by kernel_rfl) (by kernel_rfl) (Deaf.thens (Deaf.thens (Deaf.thens (Deaf.block (Deaf.thens (Deaf.block (Deaf.thens (Deaf.thens (Deaf.block (Deaf.thens (Deaf.body RetM.not_panicked))))))))))) ?_
      refine DW.skip 12 rfl (by kernel_rfl) rfl (by kernel_rfl) (by kernel_rfl) (Deaf.thens (Deaf.thens (Deaf.thens (Deaf.block (Deaf.thens (Deaf.block (Deaf.thens (Deaf.thens (Deaf.block (Deaf.thens (Deaf.body RetM.not_panicked))))))))))) ?_
      refine DW.take (T := fun _ => True) 13 (.bool false) rfl (by kernel_rfl) rfl (by kernel_rfl) (.inl fun _ => trivial) (by kernel_rfl) (Deaf.thens (Deaf.thens (Deaf.thens (Deaf.block (Deaf.thens (Deaf.block (Deaf.thens (Deaf.thens (Deaf.block (Deaf.thens (Deaf.body RetM.not_panicked))))))))))) (fun w_ _ => (by kernel_rfl)) trivial ?_
      refine DW.done (by kernel_rfl) ?_
      refine EX.then_code ?_
      refine CW.cond_f (by kernel_rfl) (by kernel_rfl) ?_
      refine CW.exit ?_
      refine EX.exit_then ?_
      refine EX.exit_then ?_
      refine EX.exit_here ?_
      refine EX.then_code ?_
      refine CW.seq ?_
      refine CW.draw (by kernel_rfl) [(8, fun w_ => RS (PH.all w_) intE a l)] ?_
      refine DW.take (T := fun _ => True) 1 (.slice ao os.length co) rfl (by kernel_rfl) rfl (by kernel_rfl) (.inl fun _ => trivial) (by kernel_rfl) (Deaf.thens (Deaf.block (Deaf.thens (Deaf.thens (Deaf.block (Deaf.thens (Deaf.body RetM.not_panicked))))))) (fun w_ _ => (by kernel_rfl)) trivial ?_
      refine DW.take (T := fun _ => True) 2 (.int .i64 (k : Int)) rfl (by kernel_rfl) rfl (by kernel_rfl) (.inl fun _ => trivial) (by kernel_rfl) (Deaf.thens (Deaf.block (Deaf.thens (Deaf.thens (Deaf.block (Deaf.thens (Deaf.body RetM.not_panicked))))))) (fun w_ _ => (by kernel_rfl)) trivial ?_
      refine DW.take (T := fun _ => True) 3 (.slice ao (((os.take k)).length) co) rfl (by kernel_rfl) rfl (by kernel_rfl) (.inl fun _ => trivial) (by kernel_rfl) (Deaf.thens (Deaf.block (Deaf.thens (Deaf.thens (Deaf.block (Deaf.thens (Deaf.body RetM.not_panicked))))))) (fun w_ _ => (q_val (q_upto (e := 3) (sz := 1) (len := os.length) (cap := co) (k := .i64) rfl (by kernel_rfl) (by kernel_rfl) (by kernel_rfl) (Nat.le_trans (show k ≤ os.length by omega) (by omega))) (by rw [List.length_take, Nat.min_eq_left (by omega)]))) trivial ?_
      refine DW.take (T := fun _ => True) 5 (.slice a l.length c) rfl (by kernel_rfl) rfl (by kernel_rfl) (.inl fun _ => trivial) (by kernel_rfl) (Deaf.thens (Deaf.block (Deaf.thens (Deaf.thens (Deaf.block (Deaf.thens (Deaf.body RetM.not_panicked))))))) (fun w_ _ => (by kernel_rfl)) trivial ?_
      refine DW.take (T := fun _ => True) 6 (.int .i64 (i : Int)) rfl (by kernel_rfl) rfl (by kernel_rfl) (.inl fun _ => trivial) (by kernel_rfl) (Deaf.thens (Deaf.block (Deaf.thens (Deaf.thens (Deaf.block (Deaf.thens (Deaf.body RetM.not_panicked))))))) (fun w_ _ => (by kernel_rfl)) trivial ?_
      refine DW.take (T := fun _ => True) 7 (eptr a (i * intE.sz)) rfl (by kernel_rfl) rfl (by kernel_rfl) (.inl fun _ => trivial) (by kernel_rfl) (Deaf.thens (Deaf.block (Deaf.thens (Deaf.thens (Deaf.block (Deaf.thens (Deaf.body RetM.not_panicked))))))) (fun w_ _ => (q_indexAddr (i := i) (E := intE) (xs := l) (e := 3) (c := c) (k := .i64) (m := l.length) rfl rfl (by kernel_rfl) (by kernel_rfl) (by kernel_rfl) (Hl.mono ((l1.trans l4).trans ((G4.drew).drew).imm)) (by omega))) trivial ?_
      refine DW.take (T := fun w_ => RS (PH.all w_) intE a l) 8 (.int .i64 (l.getD i intE.dflt)) rfl (by kernel_rfl) rfl (by kernel_rfl) (.inr (by first | exact .head _ | exact .tail _ (.head _) | exact .tail _ (.tail _ (.head _)) | exact .tail _ (.tail _ (.tail _ (.head _))) | simp)) (by kernel_rfl) (Deaf.thens (Deaf.block (Deaf.thens (Deaf.thens (Deaf.block (Deaf.thens (Deaf.body RetM.not_panicked))))))) (fun w_ T_ => (q_load_e (i := i) (k := 0) (E := intE) rfl (by kernel_rfl) (by kernel_rfl) T_ (by omega) (by decide) (by kernel_rfl))) (Hl.mono ((l1.trans l4).trans ((G4.drew).drew).imm)) ?_
      refine DW.two 0 9 (by kernel_rfl) ?_ ?_
      ·
        skip
        refine DOp.ex rfl (by kernel_rfl) rfl (by kernel_rfl) (q_newB (ob := (.cells #[] 3 (0, 0))) ((G4.drew).drew) (fun b_ => .slice (some ⟨b_, 0, none⟩) 0 0) (fun u_ => by kernel_rfl)) (fun v_ w31 p_ => by obtain ⟨b31, M31, rfl, G31, B31, L31⟩ := p_; exact ⟨.inr (fun _ => (Hl.mono ((l1.trans l4).trans G31.imm))), trivial⟩) ?_
        rintro _ w31 ⟨b31, M31, rfl, G31, B31, L31⟩
        have o31 : Own 3 intE M M31 (some ⟨b31, 0, none⟩) 0 ([] : List _) := Own.lit2 B31 (by kernel_rfl) (by kernel_rfl) (by decide)
        refine DW.two 4 9 (by kernel_rfl) ?_ ?_
        ·
          skip
          refine DOp.ex rfl (by kernel_rfl) rfl (by kernel_rfl) (q_app (e := 3) (bytes := 8) (cap := 0) (c2 := co) (M0 := M) (xs := ([] : List _)) (ys := (os.take k)) G31 o31 ((f_out1.upto k).mono (l4.trans G31.imm)) rfl (by kernel_rfl) (by kernel_rfl) (by kernel_rfl) (by simp only [maxLen, List.length_append, List.length_cons, List.length_nil, List.length_take, List.length_drop]; omega) (by simp only [List.length_append, List.length_cons, List.length_nil, List.length_take, List.length_drop]; omega)) (fun v_ w32 p_ => by obtain ⟨a32, k32, M32, rfl, G32, o32, z32⟩ := p_; exact ⟨.inr (fun _ => (Hl.mono ((l1.trans l4).trans G32.imm))), trivial⟩) ?_
          rintro _ w32 ⟨a32, k32, M32, rfl, G32, o32, z32⟩
          refine DW.only 9 (by kernel_rfl) ?_
          refine DOp.ex rfl (by kernel_rfl) rfl (by kernel_rfl) (q_newF (ob := (.cells #[(.int .i64 (l.getD i intE.dflt))] 3 (0, 0))) G32 (fun b_ => .slice (some ⟨b_, 0, none⟩) 1 1) (fun u_ => by kernel_rfl)) (fun v_ w33 p_ => by obtain ⟨b33, h33, rfl, l33, G33, hb33, L33⟩ := p_; exact ⟨.inl (by kernel_rfl), trivial⟩) ?_
          rintro _ w33 ⟨b33, h33, rfl, l33, G33, hb33, L33⟩
          have r34 : RS h33 intE (some ⟨b33, 0, none⟩) [(l.getD i intE.dflt)] := RS.blk hb33 (by kernel_rfl)
          refine DW.only 10 (by kernel_rfl) ?_
          refine DOp.ex rfl (by kernel_rfl) rfl (by kernel_rfl) (q_app (e := 3) (bytes := 8) (cap := k32) (c2 := 1) (M0 := M) (xs := ([] ++ (os.take k))) (ys := ([(l.getD i intE.dflt)])) G33 o32 (r34.mono ((PH.le_refl _).trans G33.imm)) rfl (by kernel_rfl) (by kernel_rfl) (by kernel_rfl) (by simp only [maxLen, List.length_append, List.length_cons, List.length_nil, List.length_take, List.length_drop]; omega) (by simp only [List.length_append, List.length_cons, List.length_nil, List.length_take, List.length_drop]; omega)) (fun v_ w35 p_ => by obtain ⟨a35, k35, M35, rfl, G35, o35, z35⟩ := p_; exact ⟨.inr (fun _ => (Hl.mono (((l1.trans l4).trans l33).trans G35.imm))), trivial⟩) ?_
          rintro _ w35 ⟨a35, k35, M35, rfl, G35, o35, z35⟩
          refine DW.take (T := fun _ => True) 11 (.slice a35 ((([] ++ (os.take k)) ++ ([(l.getD i intE.dflt)])).length) k35) rfl (by kernel_rfl) rfl (by kernel_rfl) (.inl fun _ => trivial) (by kernel_rfl) (Deaf.thens (Deaf.block (Deaf.thens (Deaf.thens (Deaf.block (Deaf.thens (Deaf.body RetM.not_panicked))))))) (fun w_ _ => (by kernel_rfl)) trivial ?_
          refine DW.done (by kernel_rfl) ?_
          refine EX.then_code ?_
          refine CW.region ?_
          refine WL.q (.slice a35 ((([] ++ (os.take k)) ++ ([(l.getD i intE.dflt)])).length) k35) (by kernel_rfl) rfl (by kernel_rfl) (by kernel_rfl) ?_
          refine WL.q (.slice ao os.length co) (by kernel_rfl) rfl (by kernel_rfl) (by kernel_rfl) ?_
          refine WL.q (.int .i64 (k : Int)) (by kernel_rfl) rfl (by kernel_rfl) (by kernel_rfl) ?_
          refine WL.q (.slice (aft ao co k 1) (((os.drop k)).length) (co - k)) (by kernel_rfl) rfl (by kernel_rfl) (q_val (q_from (e := 3) (sz := 1) (len := os.length) (cap := co) (lo := k) (k := .i64) rfl (by kernel_rfl) (by kernel_rfl) (by kernel_rfl) (show k ≤ os.length by omega)) (by rw [List.length_drop])) ?_
          refine WL.ex (by kernel_rfl) rfl (by kernel_rfl) (q_app (e := 3) (bytes := 8) (cap := k35) (c2 := (co - k)) (M0 := M) (xs := (([] ++ (os.take k)) ++ ([(l.getD i intE.dflt)]))) (ys := (os.drop k)) G35 o35 ((f_out1.aft (cap := co) (show k ≤ os.length by omega) (by omega)).mono ((l4.trans l33).trans G35.imm)) rfl (by kernel_rfl) (by kernel_rfl) (by kernel_rfl) (by simp only [maxLen, List.length_append, List.length_cons, List.length_nil, List.length_take, List.length_drop]; omega) (by simp only [List.length_append, List.length_cons, List.length_nil, List.length_take, List.length_drop]; omega)) ?_
          rintro _ w36 ⟨a36, k36, M36, rfl, G36, o36, z36⟩
          refine WL.q (.slice a36 (((([] ++ (os.take k)) ++ ([(l.getD i intE.dflt)])) ++ (os.drop k)).length) k36) (by kernel_rfl) rfl (by kernel_rfl) (by kernel_rfl) ?_
          refine WL.nil ?_
          refine EX.in_block ?_
          refine EX.then_code ?_
          refine CW.region ?_
          refine WL.q (.int .i64 (i : Int)) (by kernel_rfl) rfl (by kernel_rfl) (by kernel_rfl) ?_
          refine WL.q (.int .i64 ((i + 1 : Nat) : Int)) (by kernel_rfl) rfl (by kernel_rfl) (q_int (x := IntKind.i64.wrap ((i : Int) + 1)) (by kernel_rfl) (wrap_to (by omega) (by omega) (by omega))) ?_
          refine WL.q (.int .i64 ((i + 1 : Nat) : Int)) (by kernel_rfl) rfl (by kernel_rfl) (by kernel_rfl) ?_
          refine WL.nil ?_
          have hcap := o36.cap_le
          obtain ⟨h37, l37, G37, r37⟩ := o36.freeze G36
          have hle : k = 0 ∨ os.getD (k - 1) 0 ≤ l.getD i 0 := by first | exact .inl (by omega) | (exact .inr (by rw [show k - 1 = ((k : Int) - 1).toNat by omega]; show os.getD ((k : Int) - 1).toNat intE.dflt ≤ l.getD i intE.dflt; first | assumption | omega))
          obtain ⟨hp2, hs2⟩ := ins_ok (by omega) hk hp hs hgt hle
          have hnx : ((([] ++ (os.take k)) ++ ([(l.getD i intE.dflt)])) ++ (os.drop k)) = os.take k ++ [l.getD i 0] ++ os.drop k := by simp [intE]
          exact EX.then_loop ⟨i + 1, ((([] ++ (os.take k)) ++ ([(l.getD i intE.dflt)])) ++ (os.drop k)), a36, k36⟩ ⟨(by kernel_rfl), (by kernel_rfl), (by kernel_rfl), (lk_int (x := ((i + 1 : Nat) : Int)) (by kernel_rfl) (by first | omega | (dsimp only; omega) | rfl | (dsimp only; rfl))), trivial⟩ ⟨h37, (((l1.trans l4).trans l33).trans l37), G37, (r37.mono (PH.le_refl _)), (by first | omega | assumption | (dsimp only [List.length_nil, List.length_append, List.length_cons]; omega)), (hnx ▸ hp2), (hnx ▸ hs2), hcap⟩ (by first | omega | (dsimp only; omega))
        ·
          skip
          refine DOp.ex rfl (by kernel_rfl) rfl (by kernel_rfl) (q_newF (ob := (.cells #[(.int .i64 (l.getD i intE.dflt))] 3 (0, 0))) G31 (fun b_ => .slice (some ⟨b_, 0, none⟩) 1 1) (fun u_ => by kernel_rfl)) (fun v_ w38 p_ => by obtain ⟨b38, h38, rfl, l38, G38, hb38, L38⟩ := p_; exact ⟨.inl (by kernel_rfl), trivial⟩) ?_
          rintro _ w38 ⟨b38, h38, rfl, l38, G38, hb38, L38⟩
          have r39 : RS h38 intE (some ⟨b38, 0, none⟩) [(l.getD i intE.dflt)] := RS.blk hb38 (by kernel_rfl)
          refine DW.only 4 (by kernel_rfl) ?_
          refine DOp.ex rfl (by kernel_rfl) rfl (by kernel_rfl) (q_app (e := 3) (bytes := 8) (cap := 0) (c2 := co) (M0 := M) (xs := ([] : List _)) (ys := (os.take k)) G38 o31 ((f_out1.upto k).mono ((l4.trans l38).trans G38.imm)) rfl (by kernel_rfl) (by kernel_rfl) (by kernel_rfl) (by simp only [maxLen, List.length_append, List.length_cons, List.length_nil, List.length_take, List.length_drop]; omega) (by simp only [List.length_append, List.length_cons, List.length_nil, List.length_take, List.length_drop]; omega)) (fun v_ w40 p_ => by obtain ⟨a40, k40, M40, rfl, G40, o40, z40⟩ := p_; exact ⟨.inr (fun _ => (Hl.mono (((l1.trans l4).trans l38).trans G40.imm))), trivial⟩) ?_
          rintro _ w40 ⟨a40, k40, M40, rfl, G40, o40, z40⟩
          refine DW.only 10 (by kernel_rfl) ?_
          refine DOp.ex rfl (by kernel_rfl) rfl (by kernel_rfl) (q_app (e := 3) (bytes := 8) (cap := k40) (c2 := 1) (M0 := M) (xs := ([] ++ (os.take k))) (ys := ([(l.getD i intE.dflt)])) G40 o40 (r39.mono ((PH.le_refl _).trans G40.imm)) rfl (by kernel_rfl) (by kernel_rfl) (by kernel_rfl) (by simp only [maxLen, List.length_append, List.length_cons, List.length_nil, List.length_take, List.length_drop]; omega) (by simp only [List.length_append, List.length_cons, List.length_nil, List.length_take, List.length_drop]; omega)) (fun v_ w41 p_ => by obtain ⟨a41, k41, M41, rfl, G41, o41, z41⟩ := p_; exact ⟨.inr (fun _ => (Hl.mono (((l1.trans l4).trans l38).trans G41.imm))), trivial⟩) ?_
          rintro _ w41 ⟨a41, k41, M41, rfl, G41, o41, z41⟩
          refine DW.take (T := fun _ => True) 11 (.slice a41 ((([] ++ (os.take k)) ++ ([(l.getD i intE.dflt)])).length) k41) rfl (by kernel_rfl) rfl (by kernel_rfl) (.inl fun _ => trivial) (by kernel_rfl) (Deaf.thens (Deaf.block (Deaf.thens (Deaf.thens (Deaf.block (Deaf.thens (Deaf.body RetM.not_panicked))))))) (fun w_ _ => (by kernel_rfl)) trivial ?_
          refine DW.done (by kernel_rfl) ?_
          refine EX.then_code ?_
          refine CW.region ?_
          refine WL.q (.slice a41 ((([] ++ (os.take k)) ++ ([(l.getD i intE.dflt)])).length) k41) (by kernel_rfl) rfl (by kernel_rfl) (by kernel_rfl) ?_
          refine WL.q (.slice ao os.length co) (by kernel_rfl) rfl (by kernel_rfl) (by kernel_rfl) ?_
          refine WL.q (.int .i64 (k : Int)) (by kernel_rfl) rfl (by kernel_rfl) (by kernel_rfl) ?_
          refine WL.q (.slice (aft ao co k 1) (((os.drop k)).length) (co - k)) (by kernel_rfl) rfl (by kernel_rfl) (q_val (q_from (e := 3) (sz := 1) (len := os.length) (cap := co) (lo := k) (k := .i64) rfl (by kernel_rfl) (by kernel_rfl) (by kernel_rfl) (show k ≤ os.length by omega)) (by rw [List.length_drop])) ?_
          refine WL.ex (by kernel_rfl) rfl (by kernel_rfl) (q_app (e := 3) (bytes := 8) (cap := k41) (c2 := (co - k)) (M0 := M) (xs := (([] ++ (os.take k)) ++ ([(l.getD i intE.dflt)]))) (ys := (os.drop k)) G41 o41 ((f_out1.aft (cap := co) (show k ≤ os.length by omega) (by omega)).mono ((l4.trans l38).trans G41.imm)) rfl (by kernel_rfl) (by kernel_rfl) (by kernel_rfl) (by simp only [maxLen, List.length_append, List.length_cons, List.length_nil, List.length_take, List.length_drop]; omega) (by simp only [List.length_append, List.length_cons, List.length_nil, List.length_take, List.length_drop]; omega)) ?_
          rintro _ w42 ⟨a42, k42, M42, rfl, G42, o42, z42⟩
          refine WL.q (.slice a42 (((([] ++ (os.take k)) ++ ([(l.getD i intE.dflt)])) ++ (os.drop k)).length) k42) (by kernel_rfl) rfl (by kernel_rfl) (by kernel_rfl) ?_
          refine WL.nil ?_
          refine EX.in_block ?_
          refine EX.then_code ?_
          refine CW.region ?_
          refine WL.q (.int .i64 (i : Int)) (by kernel_rfl) rfl (by kernel_rfl) (by kernel_rfl) ?_
          refine WL.q (.int .i64 ((i + 1 : Nat) : Int)) (by kernel_rfl) rfl (by kernel_rfl) (q_int (x := IntKind.i64.wrap ((i : Int) + 1)) (by kernel_rfl) (wrap_to (by omega) (by omega) (by omega))) ?_
          refine WL.q (.int .i64 ((i + 1 : Nat) : Int)) (by kernel_rfl) rfl (by kernel_rfl) (by kernel_rfl) ?_
          refine WL.nil ?_
          have hcap := o42.cap_le
          obtain ⟨h43, l43, G43, r43⟩ := o42.freeze G42
          have hle : k = 0 ∨ os.getD (k - 1) 0 ≤ l.getD i 0 := by first | exact .inl (by omega) | (exact .inr (by rw [show k - 1 = ((k : Int) - 1).toNat by omega]; show os.getD ((k : Int) - 1).toNat intE.dflt ≤ l.getD i intE.dflt; first | assumption | omega))
          obtain ⟨hp2, hs2⟩ := ins_ok (by omega) hk hp hs hgt hle
          have hnx : ((([] ++ (os.take k)) ++ ([(l.getD i intE.dflt)])) ++ (os.drop k)) = os.take k ++ [l.getD i 0] ++ os.drop k := by simp [intE]
          exact EX.then_loop ⟨i + 1, ((([] ++ (os.take k)) ++ ([(l.getD i intE.dflt)])) ++ (os.drop k)), a42, k42⟩ ⟨(by kernel_rfl), (by kernel_rfl), (by kernel_rfl), (lk_int (x := ((i + 1 : Nat) : Int)) (by kernel_rfl) (by first | omega | (dsimp only; omega) | rfl | (dsimp only; rfl))), trivial⟩ ⟨h43, (((l1.trans l4).trans l38).trans l43), G43, (r43.mono (PH.le_refl _)), (by first | omega | assumption | (dsimp only [List.length_nil, List.length_append, List.length_cons]; omega)), (hnx ▸ hp2), (hnx ▸ hs2), hcap⟩ (by first | omega | (dsimp only; omega))
      ·
        skip
        refine DOp.ex rfl (by kernel_rfl) rfl (by kernel_rfl) (q_newF (ob := (.cells #[(.int .i64 (l.getD i intE.dflt))] 3 (0, 0))) ((G4.drew).drew) (fun b_ => .slice (some ⟨b_, 0, none⟩) 1 1) (fun u_ => by kernel_rfl)) (fun v_ w44 p_ => by obtain ⟨b44, h44, rfl, l44, G44, hb44, L44⟩ := p_; exact ⟨.inl (by kernel_rfl), trivial⟩) ?_
        rintro _ w44 ⟨b44, h44, rfl, l44, G44, hb44, L44⟩
        have r45 : RS h44 intE (some ⟨b44, 0, none⟩) [(l.getD i intE.dflt)] := RS.blk hb44 (by kernel_rfl)
        refine DW.only 0 (by kernel_rfl) ?_
        refine DOp.ex rfl (by kernel_rfl) rfl (by kernel_rfl) (q_newB (ob := (.cells #[] 3 (0, 0))) G44 (fun b_ => .slice (some ⟨b_, 0, none⟩) 0 0) (fun u_ => by kernel_rfl)) (fun v_ w46 p_ => by obtain ⟨b46, M46, rfl, G46, B46, L46⟩ := p_; exact ⟨.inr (fun _ => (Hl.mono (((l1.trans l4).trans l44).trans G46.imm))), trivial⟩) ?_
        rintro _ w46 ⟨b46, M46, rfl, G46, B46, L46⟩
        have o46 : Own 3 intE M M46 (some ⟨b46, 0, none⟩) 0 ([] : List _) := Own.lit2 B46 (by kernel_rfl) (by kernel_rfl) (by decide)
        refine DW.only 4 (by kernel_rfl) ?_
        refine DOp.ex rfl (by kernel_rfl) rfl (by kernel_rfl) (q_app (e := 3) (bytes := 8) (cap := 0) (c2 := co) (M0 := M) (xs := ([] : List _)) (ys := (os.take k)) G46 o46 ((f_out1.upto k).mono ((l4.trans l44).trans G46.imm)) rfl (by kernel_rfl) (by kernel_rfl) (by kernel_rfl) (by simp only [maxLen, List.length_append, List.length_cons, List.length_nil, List.length_take, List.length_drop]; omega) (by simp only [List.length_append, List.length_cons, List.length_nil, List.length_take, List.length_drop]; omega)) (fun v_ w47 p_ => by obtain ⟨a47, k47, M47, rfl, G47, o47, z47⟩ := p_; exact ⟨.inr (fun _ => (Hl.mono (((l1.trans l4).trans l44).trans G47.imm))), trivial⟩) ?_
        rintro _ w47 ⟨a47, k47, M47, rfl, G47, o47, z47⟩
        refine DW.only 10 (by kernel_rfl) ?_
        refine DOp.ex rfl (by kernel_rfl) rfl (by kernel_rfl) (q_app (e := 3) (bytes := 8) (cap := k47) (c2 := 1) (M0 := M) (xs := ([] ++ (os.take k))) (ys := ([(l.getD i intE.dflt)])) G47 o47 (r45.mono ((PH.le_refl _).trans G47.imm)) rfl (by kernel_rfl) (by kernel_rfl) (by kernel_rfl) (by simp only [maxLen, List.length_append, List.length_cons, List.length_nil, List.length_take, List.length_drop]; omega) (by simp only [List.length_append, List.length_cons, List.length_nil, List.length_take, List.length_drop]; omega)) (fun v_ w48 p_ => by obtain ⟨a48, k48, M48, rfl, G48, o48, z48⟩ := p_; exact ⟨.inr (fun _ => (Hl.mono (((l1.trans l4).trans l44).trans G48.imm))), trivial⟩) ?_
        rintro _ w48 ⟨a48, k48, M48, rfl, G48, o48, z48⟩
        refine DW.take (T := fun _ => True) 11 (.slice a48 ((([] ++ (os.take k)) ++ ([(l.getD i intE.dflt)])).length) k48) rfl (by kernel_rfl) rfl (by kernel_rfl) (.inl fun _ => trivial) (by kernel_rfl) (Deaf.thens (Deaf.block (Deaf.thens (Deaf.thens (Deaf.block (Deaf.thens (Deaf.body RetM.not_panicked))))))) (fun w_ _ => (by kernel_rfl)) trivial ?_
        refine DW.done (by kernel_rfl) ?_
        refine EX.then_code ?_
        refine CW.region ?_
        refine WL.q (.slice a48 ((([] ++ (os.take k)) ++ ([(l.getD i intE.dflt)])).length) k48) (by kernel_rfl) rfl (by kernel_rfl) (by kernel_rfl) ?_
        refine WL.q (.slice ao os.length co) (by kernel_rfl) rfl (by kernel_rfl) (by kernel_rfl) ?_
        refine WL.q (.int .i64 (k : Int)) (by kernel_rfl) rfl (by kernel_rfl) (by kernel_rfl) ?_
        refine WL.q (.slice (aft ao co k 1) (((os.drop k)).length) (co - k)) (by kernel_rfl) rfl (by kernel_rfl) (q_val (q_from (e := 3) (sz := 1) (len := os.length) (cap := co) (lo := k) (k := .i64) rfl (by kernel_rfl) (by kernel_rfl) (by kernel_rfl) (show k ≤ os.length by omega)) (by rw [List.length_drop])) ?_
        refine WL.ex (by kernel_rfl) rfl (by kernel_rfl) (q_app (e := 3) (bytes := 8) (cap := k48) (c2 := (co - k)) (M0 := M) (xs := (([] ++ (os.take k)) ++ ([(l.getD i intE.dflt)]))) (ys := (os.drop k)) G48 o48 ((f_out1.aft (cap := co) (show k ≤ os.length by omega) (by omega)).mono ((l4.trans l44).trans G48.imm)) rfl (by kernel_rfl) (by kernel_rfl) (by kernel_rfl) (by simp only [maxLen, List.length_append, List.length_cons, List.length_nil, List.length_take, List.length_drop]; omega) (by simp only [List.length_append, List.length_cons, List.length_nil, List.length_take, List.length_drop]; omega)) ?_
        rintro _ w49 ⟨a49, k49, M49, rfl, G49, o49, z49⟩
        refine WL.q (.slice a49 (((([] ++ (os.take k)) ++ ([(l.getD i intE.dflt)])) ++ (os.drop k)).length) k49) (by kernel_rfl) rfl (by kernel_rfl) (by kernel_rfl) ?_
        refine WL.nil ?_
        refine EX.in_block ?_
        refine EX.then_code ?_
        refine CW.region ?_
        refine WL.q (.int .i64 (i : Int)) (by kernel_rfl) rfl (by kernel_rfl) (by kernel_rfl) ?_
        refine WL.q (.int .i64 ((i + 1 : Nat) : Int)) (by kernel_rfl) rfl (by kernel_rfl) (q_int (x := IntKind.i64.wrap ((i : Int) + 1)) (by kernel_rfl) (wrap_to (by omega) (by omega) (by omega))) ?_
        refine WL.q (.int .i64 ((i + 1 : Nat) : Int)) (by kernel_rfl) rfl (by kernel_rfl) (by kernel_rfl) ?_
        refine WL.nil ?_
        have hcap := o49.cap_le
        obtain ⟨h50, l50, G50, r50⟩ := o49.freeze G49
        have hle : k = 0 ∨ os.getD (k - 1) 0 ≤ l.getD i 0 := by first | exact .inl (by omega) | (exact .inr (by rw [show k - 1 = ((k : Int) - 1).toNat by omega]; show os.getD ((k : Int) - 1).toNat intE.dflt ≤ l.getD i intE.dflt; first | assumption | omega))
        obtain ⟨hp2, hs2⟩ := ins_ok (by omega) hk hp hs hgt hle
        have hnx : ((([] ++ (os.take k)) ++ ([(l.getD i intE.dflt)])) ++ (os.drop k)) = os.take k ++ [l.getD i 0] ++ os.drop k := by simp [intE]
        exact EX.then_loop ⟨i + 1, ((([] ++ (os.take k)) ++ ([(l.getD i intE.dflt)])) ++ (os.drop k)), a49, k49⟩ ⟨(by kernel_rfl), (by kernel_rfl), (by kernel_rfl), (lk_int (x := ((i + 1 : Nat) : Int)) (by kernel_rfl) (by first | omega | (dsimp only; omega) | rfl | (dsimp only; rfl))), trivial⟩ ⟨h50, (((l1.trans l4).trans l44).trans l50), G50, (r50.mono (PH.le_refl _)), (by first | omega | assumption | (dsimp only [List.length_nil, List.length_append, List.length_cons]; omega)), (hnx ▸ hp2), (hnx ▸ hs2), hcap⟩ (by first | omega | (dsimp only; omega))
  ·
    skip
    have d51 := of_decide_eq_false c2
    refine CW.exit ?_
    refine EX.exit_then ?_
    refine EX.exit_then ?_
    refine EX.exit_here ?_
    refine EX.then_code ?_
    refine CW.seq ?_
    refine CW.region ?_
    refine WL.q (.slice ao os.length co) (by kernel_rfl) rfl (by kernel_rfl) (by kernel_rfl) ?_
    refine WL.q (.slice ao os.length co) (by kernel_rfl) rfl (by kernel_rfl) (by kernel_rfl) ?_
    refine WL.nil ?_
    refine EX.then_code ?_
    refine CW.ret ?_
    refine EX.ret1 (v := (.slice ao os.length co)) rfl (by kernel_rfl) ?_
    obtain rfl : i = l.length := by omega
    rw [List.take_length] at hp
    have hfin := rise_fin hp hs
    exact Ret.mk l1 G1 (⟨ao, co, by rw [← hfin], hfin ▸ (f_out1.mono (PH.le_refl _))⟩)
end Go.Proofs
