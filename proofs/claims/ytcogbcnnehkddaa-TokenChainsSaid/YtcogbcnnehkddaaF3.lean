import Derived.Test.YtcogbcnnehkddaaF1
import Derived.Test.YtcogbcnnehkddaaLib9
namespace Go.Proofs
open Go Go.Wk
set_option maxHeartbeats 4000000 in
theorem chains_spec {K : Key} {w : World} {h M : PH} (G : Wld K w h M) {n0 a0 : Nat} (hn : n0 ≤ 255) (ha : a0 ≤ 255) :
    Calls Try.prog 4 #[.int .u8 (n0 : Int), .int .u8 (a0 : Int)] w (Ret K h M fun _ v => v = .bool true) := by
  obtain ⟨m, hm⟩ : ∃ m, m = 1 + n0 % 100 := ⟨_, rfl⟩
  obtain ⟨k, hk⟩ : ∃ k, k = a0 % m := ⟨_, rfl⟩
  have hm0 : 0 < m ∧ m ≤ 100 := by omega
  have hkm : k < m := by rw [hk]; exact Nat.mod_lt _ hm0.1
  refine enter (l := [(.int .u8 (n0 : Int)), (.int .u8 (a0 : Int))]) Try.func4 rfl Try.ntmps4 (Nat.le_of_ble_eq_true rfl) ?_
  simp only [params]
  refine CW.seq ?_
  refine CW.region ?_
  refine WL.q (.bool false) (by kernel_rfl) rfl (by kernel_rfl) (by kernel_rfl) ?_
  refine WL.nil ?_
  refine EX.then_code ?_
  refine CW.seq ?_
  refine CW.seq ?_
  refine CW.region ?_
  refine WL.call (by kernel_rfl) rfl (by kernel_rfl) (by kernel_rfl) (known_spec G) (Ret.elim ?_)
  rintro w1 h1 _ l1 G1 rfl
  refine WL.q (.bool false) (by kernel_rfl) rfl (by kernel_rfl) (by kernel_rfl) ?_
  refine WL.nil ?_
  refine EX.then_code ?_
  refine CW.cond_f (by kernel_rfl) (by kernel_rfl) ?_
  refine CW.skip ?_
  refine EX.then_code ?_
  refine CW.seq ?_
  refine CW.region ?_
  refine WL.q (.int .u8 (n0 : Int)) (by kernel_rfl) rfl (by kernel_rfl) (by kernel_rfl) ?_
  refine WL.q (.int .u8 ((n0 % 100 : Nat) : Int)) (by kernel_rfl) rfl (by kernel_rfl) (q_rem (n := n0) (m := 100) rfl (by kernel_rfl) (by kernel_rfl) (by omega)) ?_
  refine WL.q (.int .i64 ((n0 % 100 : Nat) : Int)) (by kernel_rfl) rfl (by kernel_rfl) (q_int (by kernel_rfl) (wrap_i64 (by omega) (by omega))) ?_
  refine WL.q (.int .i64 (1 + ((n0 % 100 : Nat) : Int))) (by kernel_rfl) rfl (by kernel_rfl) (q_int (x := IntKind.i64.wrap (1 + ((n0 % 100 : Nat) : Int))) (by kernel_rfl) (wrap_to (by omega) (by omega) (by omega))) ?_
  refine WL.know 19 (.int .i64 (m : Int)) (x := (.int .i64 (1 + ((n0 % 100 : Nat) : Int)))) (by kernel_rfl) (congrArg (Value.int .i64) (by omega)) ?_
  refine WL.q (.int .i64 (m : Int)) (by kernel_rfl) rfl (by kernel_rfl) (by kernel_rfl) ?_
  refine WL.nil ?_
  refine EX.then_code ?_
  refine CW.seq ?_
  refine CW.region ?_
  refine WL.q (.int .u8 (a0 : Int)) (by kernel_rfl) rfl (by kernel_rfl) (by kernel_rfl) ?_
  refine WL.q (.int .i64 (a0 : Int)) (by kernel_rfl) rfl (by kernel_rfl) (q_int (by kernel_rfl) (wrap_i64 (by omega) (by omega))) ?_
  refine WL.q (.int .i64 (m : Int)) (by kernel_rfl) rfl (by kernel_rfl) (by kernel_rfl) ?_
  refine WL.q (.int .i64 ((a0 % m : Nat) : Int)) (by kernel_rfl) rfl (by kernel_rfl) (q_rem (n := a0) (m := m) rfl (by kernel_rfl) (by kernel_rfl) (by omega)) ?_
  refine WL.know 23 (.int .i64 (k : Int)) (x := (.int .i64 ((a0 % m : Nat) : Int))) (by kernel_rfl) (congrArg (Value.int .i64) (by omega)) ?_
  refine WL.q (.int .i64 (k : Int)) (by kernel_rfl) rfl (by kernel_rfl) (by kernel_rfl) ?_
  refine WL.nil ?_
  refine EX.then_code ?_
  refine CW.seq ?_
  refine CW.region ?_
  refine WL.call (by kernel_rfl) rfl (by kernel_rfl) (by kernel_rfl) (newT_spec G1) (RetM.elim ?_)
  rintro w2 h2 M2 _ l2 G2 ⟨p2, rfl, A2⟩
  refine WL.q (.pointer (some ⟨p2, 0, none⟩)) (by kernel_rfl) rfl (by kernel_rfl) (by kernel_rfl) ?_
  refine WL.nil ?_
  refine EX.then_code ?_
  refine CW.seq ?_
  refine CW.region ?_
  refine WL.q (.int .i64 0) (by kernel_rfl) rfl (by kernel_rfl) (by kernel_rfl) ?_
  refine WL.nil ?_
  refine EX.then_code ?_
  refine CW.seq ?_
  refine CW.seq ?_
  refine CW.region ?_
  refine WL.q (.int .i64 0) (by kernel_rfl) rfl (by kernel_rfl) (by kernel_rfl) ?_
  refine WL.nil ?_
  refine EX.then_code ?_
  refine CW.block ?_
  refine CW.loop (β := Nat) (fun x_ => [(5, (.int .i64 (m : Int))), (6, (.int .i64 (k : Int))), (7, (.pointer (some ⟨p2, 0, none⟩))), (8, (.int .i64 (x_ : Int))), (9, (.int .i64 (x_ : Int)))]) (fun x_ w_ => ∃ h_ Mt_, (PH.le h2 h_) ∧ (Wld K w_ h_ Mt_) ∧ (TreeA M Mt_ p2 (chain x_) (x_ : Int)) ∧ (x_ ≤ m)) (fun x_ => m - x_) 0 ⟨(by kernel_rfl), (by kernel_rfl), (by kernel_rfl), (lk_int (x := 0) (by kernel_rfl) (by first | omega | (dsimp only; done) | (dsimp only; omega))), (lk_int (x := 0) (by kernel_rfl) (by first | omega | (dsimp only; done) | (dsimp only; omega))), trivial⟩ ⟨h2, M2, (PH.le_refl _), G2, A2, (by first | omega | (dsimp only [List.length_nil, List.length_append, List.length_cons]; omega))⟩ ?_
  rintro i w3 ⟨h3, Mt3, l3, G3, A3, hi⟩
  try dsimp only at *
  refine CW.seq ?_
  refine CW.seq ?_
  refine CW.region ?_
  refine WL.q (.int .i64 (i : Int)) (by kernel_rfl) rfl (by kernel_rfl) (by kernel_rfl) ?_
  refine WL.q (.int .i64 (m : Int)) (by kernel_rfl) rfl (by kernel_rfl) (by kernel_rfl) ?_
  refine WL.q (.bool (decide ((i : Int) < (m : Int)))) (by kernel_rfl) rfl (by kernel_rfl) (by kernel_rfl) ?_
  refine WL.nil ?_
  refine EX.then_code ?_
  refine CW.cond (decide ((i : Int) < (m : Int))) (by kernel_rfl) (by kernel_rfl) (fun c4 => ?_) (fun c4 => ?_)
  ·
    skip
    have d5 := of_decide_eq_true c4
    refine CW.skip ?_
    refine EX.then_code ?_
    refine CW.seq ?_
    refine CW.block ?_
    refine CW.seq ?_
    refine CW.region ?_
    refine WL.q (.pointer (some ⟨p2, 0, none⟩)) (by kernel_rfl) rfl (by kernel_rfl) (by kernel_rfl) ?_
    refine WL.q (.int .i64 (i : Int)) (by kernel_rfl) rfl (by kernel_rfl) (by kernel_rfl) ?_
    refine WL.q (.int .i64 (i : Int)) (by kernel_rfl) rfl (by kernel_rfl) (by kernel_rfl) ?_
    refine WL.q (.int .i64 (100 + (i : Int))) (by kernel_rfl) rfl (by kernel_rfl) (q_int (x := IntKind.i64.wrap (100 + (i : Int))) (by kernel_rfl) (wrap_to (by omega) (by omega) (by omega))) ?_
    refine WL.call (by kernel_rfl) rfl (by kernel_rfl) (by kernel_rfl) (addT_yes G3 A3 (by (rw [chain_len]; omega)) (by omega) (by omega) (i : Int) (100 + (i : Int)) (chain_has (Nat.le_refl _))) (RetM.elim ?_)
    rintro w6 h6 M6 _ l6 G6 ⟨rfl, A6⟩
    have A_ := A6
    rw [← chain_succ] at A_
    refine WL.q (.tuple #[(.int .i64 ((i : Int) + 1)), (.int .i64 0)]) (by kernel_rfl) rfl (by kernel_rfl) (by kernel_rfl) ?_
    refine WL.q (.int .i64 ((i : Int) + 1)) (by kernel_rfl) rfl (by kernel_rfl) (by kernel_rfl) ?_
    refine WL.q (.int .i64 0) (by kernel_rfl) rfl (by kernel_rfl) (by kernel_rfl) ?_
    refine WL.q (.int .i64 ((i : Int) + 1)) (by kernel_rfl) rfl (by kernel_rfl) (by kernel_rfl) ?_
    refine WL.q (.int .i64 0) (by kernel_rfl) rfl (by kernel_rfl) (by kernel_rfl) ?_
    refine WL.nil ?_
    refine EX.then_code ?_
    refine CW.seq ?_
    refine CW.seq ?_
    refine CW.region ?_
    refine WL.q (.int .i64 0) (by kernel_rfl) rfl (by kernel_rfl) (by kernel_rfl) ?_
    refine WL.q (.bool false) (by kernel_rfl) rfl (by kernel_rfl) (by kernel_rfl) ?_
    refine WL.nil ?_
    refine EX.then_code ?_
    refine CW.cond_f (by kernel_rfl) (by kernel_rfl) ?_
    refine CW.skip ?_
    refine EX.then_code ?_
    refine CW.region ?_
    refine WL.q (.int .i64 ((i : Int) + 1)) (by kernel_rfl) rfl (by kernel_rfl) (by kernel_rfl) ?_
    refine WL.q (.int .i64 ((i : Int) + 1)) (by kernel_rfl) rfl (by kernel_rfl) (by kernel_rfl) ?_
    refine WL.nil ?_
    refine EX.in_block ?_
    refine EX.then_code ?_
    refine CW.region ?_
    refine WL.q (.int .i64 (i : Int)) (by kernel_rfl) rfl (by kernel_rfl) (by kernel_rfl) ?_
    refine WL.q (.int .i64 ((i + 1 : Nat) : Int)) (by kernel_rfl) rfl (by kernel_rfl) (q_int (x := IntKind.i64.wrap ((i : Int) + 1)) (by kernel_rfl) (wrap_to (by omega) (by omega) (by omega))) ?_
    refine WL.q (.int .i64 ((i + 1 : Nat) : Int)) (by kernel_rfl) rfl (by kernel_rfl) (by kernel_rfl) ?_
    refine WL.nil ?_
    exact EX.then_loop (i + 1) ⟨(by kernel_rfl), (by kernel_rfl), (by kernel_rfl), (lk_int (x := ((i : Int) + 1)) (by kernel_rfl) (by first | omega | (dsimp only; done) | (dsimp only; omega))), (lk_int (x := ((i + 1 : Nat) : Int)) (by kernel_rfl) (by first | omega | (dsimp only; done) | (dsimp only; omega))), trivial⟩ ⟨h6, M6, (l3.trans l6), G6, A_, (by first | omega | (dsimp only [List.length_nil, List.length_append, List.length_cons]; omega))⟩ (by first | omega | (dsimp only; omega))
  ·
    skip
    have d7 := of_decide_eq_false c4
    refine CW.exit ?_
    refine EX.exit_then ?_
    refine EX.exit_then ?_
    refine EX.exit_here ?_
    refine EX.then_code ?_
    refine CW.seq ?_
    refine CW.region ?_
    refine WL.q (.pointer (some ⟨p2, 0, none⟩)) (by kernel_rfl) rfl (by kernel_rfl) (by kernel_rfl) ?_
    refine WL.q (.int .i64 (i : Int)) (by kernel_rfl) rfl (by kernel_rfl) (by kernel_rfl) ?_
    obtain rfl : m = i := by omega
    have hpn : (pathN (chain m) ((chain m).length + 1) (m : Int)) = (List.range m).map fun j : Nat => 100 + (j : Int) := by rw [chain_len]; exact chain_path m (m + 1) m (by omega) (Nat.le_refl _)
    have hpl : (pathN (chain m) ((chain m).length + 1) (m : Int)).length = m := by rw [hpn]; simp
    have hp0 : (pathN (chain m) ((chain m).length + 1) (m : Int)).getD 0 intE.dflt = 100 := by rw [hpn]; simp [List.getD, show 0 < m by omega]
    have hp1 : (pathN (chain m) ((chain m).length + 1) (m : Int)).getD ((m : Int) - 1).toNat intE.dflt = 99 + (m : Int) := by rw [hpn, show ((m : Int) - 1).toNat = m - 1 by omega]; simp [List.getD, show m - 1 < m by omega]; omega
    have cp8 := pathT_spec G3 A3 (by (rw [chain_len]; omega)) (m : Int)
    rw [decide_eq_true (chain_has (Nat.le_refl _))] at cp8
    refine WL.call (by kernel_rfl) rfl (by kernel_rfl) (by kernel_rfl) cp8 (Ret.elim ?_)
    rintro w8 h8 _ l8 G8 ⟨ap8, rfl, rp8⟩
    refine WL.q (.tuple #[(.slice ap8 ((pathN (chain m) ((chain m).length + 1) (m : Int)).length) ((pathN (chain m) ((chain m).length + 1) (m : Int)).length)), (.bool true)]) (by kernel_rfl) rfl (by kernel_rfl) (by kernel_rfl) ?_
    refine WL.q (.slice ap8 ((pathN (chain m) ((chain m).length + 1) (m : Int)).length) ((pathN (chain m) ((chain m).length + 1) (m : Int)).length)) (by kernel_rfl) rfl (by kernel_rfl) (by kernel_rfl) ?_
    refine WL.q (.bool true) (by kernel_rfl) rfl (by kernel_rfl) (by kernel_rfl) ?_
    refine WL.q (.slice ap8 ((pathN (chain m) ((chain m).length + 1) (m : Int)).length) ((pathN (chain m) ((chain m).length + 1) (m : Int)).length)) (by kernel_rfl) rfl (by kernel_rfl) (by kernel_rfl) ?_
    refine WL.q (.bool true) (by kernel_rfl) rfl (by kernel_rfl) (by kernel_rfl) ?_
    refine WL.nil ?_
    refine EX.then_code ?_
    refine CW.seq ?_
    refine CW.seq ?_
    refine CW.region ?_
    refine WL.q (.bool true) (by kernel_rfl) rfl (by kernel_rfl) (by kernel_rfl) ?_
    refine WL.q (.bool false) (by kernel_rfl) rfl (by kernel_rfl) (by kernel_rfl) ?_
    refine WL.q (.bool false) (by kernel_rfl) rfl (by kernel_rfl) (by kernel_rfl) ?_
    refine WL.q (.slice ap8 ((pathN (chain m) ((chain m).length + 1) (m : Int)).length) ((pathN (chain m) ((chain m).length + 1) (m : Int)).length)) (by kernel_rfl) rfl (by kernel_rfl) (by kernel_rfl) ?_
    refine WL.q (.int .i64 ((pathN (chain m) ((chain m).length + 1) (m : Int)).length : Int)) (by kernel_rfl) rfl (by kernel_rfl) (by kernel_rfl) ?_
    refine WL.q (.int .i64 (m : Int)) (by kernel_rfl) rfl (by kernel_rfl) (by kernel_rfl) ?_
    refine WL.q (.bool ((((pathN (chain m) ((chain m).length + 1) (m : Int)).length : Int) : Int) != (m : Int))) (by kernel_rfl) rfl (by kernel_rfl) (by kernel_rfl) ?_
    refine WL.q (.bool ((((pathN (chain m) ((chain m).length + 1) (m : Int)).length : Int) : Int) != (m : Int))) (by kernel_rfl) rfl (by kernel_rfl) (by kernel_rfl) ?_
    refine WL.q (.bool ((((pathN (chain m) ((chain m).length + 1) (m : Int)).length : Int) : Int) != (m : Int))) (by kernel_rfl) rfl (by kernel_rfl) (by kernel_rfl) ?_
    rcases bool_cases ((((pathN (chain m) ((chain m).length + 1) (m : Int)).length : Int) : Int) != (m : Int)) with c9 | c9
    ·
      skip
      have d10 := bne_true c9
      refine WL.know 55 (.bool true) (x := .bool ((((pathN (chain m) ((chain m).length + 1) (m : Int)).length : Int) : Int) != (m : Int))) (by kernel_rfl) (congrArg Value.bool c9) ?_
      refine WL.skip (by kernel_rfl) rfl (by kernel_rfl) ?_
      refine WL.skip (by kernel_rfl) rfl (by kernel_rfl) ?_
      refine WL.skip (by kernel_rfl) rfl (by kernel_rfl) ?_
      refine WL.skip (by kernel_rfl) rfl (by kernel_rfl) ?_
      refine WL.q (.bool true) (by kernel_rfl) rfl (by kernel_rfl) (by kernel_rfl) ?_
      refine WL.q (.bool true) (by kernel_rfl) rfl (by kernel_rfl) (by kernel_rfl) ?_
      refine WL.skip (by kernel_rfl) rfl (by kernel_rfl) ?_
      refine WL.skip (by kernel_rfl) rfl (by kernel_rfl) ?_
      refine WL.skip (by kernel_rfl) rfl (by kernel_rfl) ?_
      refine WL.skip (by kernel_rfl) rfl (by kernel_rfl) ?_
      refine WL.skip (by kernel_rfl) rfl (by kernel_rfl) ?_
      refine WL.skip (by kernel_rfl) rfl (by kernel_rfl) ?_
      refine WL.skip (by kernel_rfl) rfl (by kernel_rfl) ?_
      refine WL.skip (by kernel_rfl) rfl (by kernel_rfl) ?_
      refine WL.q (.bool true) (by kernel_rfl) rfl (by kernel_rfl) (by kernel_rfl) ?_
      refine WL.nil ?_
      refine EX.then_code ?_
      refine CW.cond_t (by kernel_rfl) (by kernel_rfl) ?_
      refine CW.seq ?_
      refine CW.region ?_
      refine WL.q (.bool false) (by kernel_rfl) rfl (by kernel_rfl) (by kernel_rfl) ?_
      refine WL.nil ?_
      refine EX.then_code ?_
      refine CW.ret ?_
      refine EX.ret_then ?_
      refine EX.ret1 (v := (.bool false)) rfl (by kernel_rfl) ?_
      first | (exfalso; omega) | (exfalso; simp only [List.length_append, List.length_cons, List.length_nil, List.nil_append] at *; omega) | (exfalso; simp_all; done)
    ·
      skip
      have d11 := bne_false c9
      refine WL.know 55 (.bool false) (x := .bool ((((pathN (chain m) ((chain m).length + 1) (m : Int)).length : Int) : Int) != (m : Int))) (by kernel_rfl) (congrArg Value.bool c9) ?_
      refine WL.q (.slice ap8 ((pathN (chain m) ((chain m).length + 1) (m : Int)).length) ((pathN (chain m) ((chain m).length + 1) (m : Int)).length)) (by kernel_rfl) rfl (by kernel_rfl) (by kernel_rfl) ?_
      refine WL.q (eptr ap8 (0 * intE.sz)) (by kernel_rfl) rfl (by kernel_rfl) (q_indexAddr (i := 0) (E := intE) (xs := (pathN (chain m) ((chain m).length + 1) (m : Int))) (e := 3) (c := ((pathN (chain m) ((chain m).length + 1) (m : Int)).length)) (k := .i64) (m := ((pathN (chain m) ((chain m).length + 1) (m : Int)).length)) rfl rfl (by kernel_rfl) (by kernel_rfl) (by kernel_rfl) (rp8.mono ((PH.le_refl _).trans G8.imm)) (by omega)) ?_
      refine WL.q (.int .i64 ((pathN (chain m) ((chain m).length + 1) (m : Int)).getD 0 intE.dflt)) (by kernel_rfl) rfl (by kernel_rfl) (q_load_e (i := 0) (k := 0) (E := intE) rfl (by kernel_rfl) (by kernel_rfl) (rp8.mono ((PH.le_refl _).trans G8.imm)) (by omega) (by decide) (by kernel_rfl)) ?_
      refine WL.q (.bool ((((pathN (chain m) ((chain m).length + 1) (m : Int)).getD 0 intE.dflt) : Int) != 100)) (by kernel_rfl) rfl (by kernel_rfl) (by kernel_rfl) ?_
      refine WL.q (.bool ((((pathN (chain m) ((chain m).length + 1) (m : Int)).getD 0 intE.dflt) : Int) != 100)) (by kernel_rfl) rfl (by kernel_rfl) (by kernel_rfl) ?_
      refine WL.q (.bool ((((pathN (chain m) ((chain m).length + 1) (m : Int)).getD 0 intE.dflt) : Int) != 100)) (by kernel_rfl) rfl (by kernel_rfl) (by kernel_rfl) ?_
      rcases bool_cases ((((pathN (chain m) ((chain m).length + 1) (m : Int)).getD 0 intE.dflt) : Int) != 100) with c12 | c12
      ·
        skip
        have d13 := bne_true c12
        refine WL.know 61 (.bool true) (x := .bool ((((pathN (chain m) ((chain m).length + 1) (m : Int)).getD 0 intE.dflt) : Int) != 100)) (by kernel_rfl) (congrArg Value.bool c12) ?_
        refine WL.skip (by kernel_rfl) rfl (by kernel_rfl) ?_
        refine WL.skip (by kernel_rfl) rfl (by kernel_rfl) ?_
        refine WL.skip (by kernel_rfl) rfl (by kernel_rfl) ?_
        refine WL.skip (by kernel_rfl) rfl (by kernel_rfl) ?_
        refine WL.skip (by kernel_rfl) rfl (by kernel_rfl) ?_
        refine WL.skip (by kernel_rfl) rfl (by kernel_rfl) ?_
        refine WL.skip (by kernel_rfl) rfl (by kernel_rfl) ?_
        refine WL.skip (by kernel_rfl) rfl (by kernel_rfl) ?_
        refine WL.q (.bool true) (by kernel_rfl) rfl (by kernel_rfl) (by kernel_rfl) ?_
        refine WL.nil ?_
        refine EX.then_code ?_
        refine CW.cond_t (by kernel_rfl) (by kernel_rfl) ?_
        refine CW.seq ?_
        refine CW.region ?_
        refine WL.q (.bool false) (by kernel_rfl) rfl (by kernel_rfl) (by kernel_rfl) ?_
        refine WL.nil ?_
        refine EX.then_code ?_
        refine CW.ret ?_
        refine EX.ret_then ?_
        refine EX.ret1 (v := (.bool false)) rfl (by kernel_rfl) ?_
        first | (exfalso; omega) | (exfalso; simp only [List.length_append, List.length_cons, List.length_nil, List.nil_append] at *; omega) | (exfalso; simp_all; done)
      ·
        skip
        have d14 := bne_false c12
        refine WL.know 61 (.bool false) (x := .bool ((((pathN (chain m) ((chain m).length + 1) (m : Int)).getD 0 intE.dflt) : Int) != 100)) (by kernel_rfl) (congrArg Value.bool c12) ?_
        refine WL.q (.slice ap8 ((pathN (chain m) ((chain m).length + 1) (m : Int)).length) ((pathN (chain m) ((chain m).length + 1) (m : Int)).length)) (by kernel_rfl) rfl (by kernel_rfl) (by kernel_rfl) ?_
        refine WL.q (.int .i64 (m : Int)) (by kernel_rfl) rfl (by kernel_rfl) (by kernel_rfl) ?_
        refine WL.q (.int .i64 ((m : Int) - 1)) (by kernel_rfl) rfl (by kernel_rfl) (q_int (x := IntKind.i64.wrap ((m : Int) - 1)) (by kernel_rfl) (wrap_to (by omega) (by omega) (by omega))) ?_
        refine WL.q (eptr ap8 ((((m : Int) - 1).toNat) * intE.sz)) (by kernel_rfl) rfl (by kernel_rfl) (q_indexAddr (i := (((m : Int) - 1).toNat)) (E := intE) (xs := (pathN (chain m) ((chain m).length + 1) (m : Int))) (e := 3) (c := ((pathN (chain m) ((chain m).length + 1) (m : Int)).length)) (k := .i64) (m := ((pathN (chain m) ((chain m).length + 1) (m : Int)).length)) rfl rfl (by kernel_rfl) (by kernel_rfl) ((show _ = Value.int .i64 ((m : Int) - 1) by kernel_rfl).trans (congrArg (Value.int .i64) (by omega))) (rp8.mono ((PH.le_refl _).trans G8.imm)) (by omega)) ?_
        refine WL.q (.int .i64 ((pathN (chain m) ((chain m).length + 1) (m : Int)).getD (((m : Int) - 1).toNat) intE.dflt)) (by kernel_rfl) rfl (by kernel_rfl) (q_load_e (i := (((m : Int) - 1).toNat)) (k := 0) (E := intE) rfl (by kernel_rfl) (by kernel_rfl) (rp8.mono ((PH.le_refl _).trans G8.imm)) (by omega) (by decide) (by kernel_rfl)) ?_
        refine WL.q (.int .i64 (m : Int)) (by kernel_rfl) rfl (by kernel_rfl) (by kernel_rfl) ?_
        refine WL.q (.int .i64 (99 + (m : Int))) (by kernel_rfl) rfl (by kernel_rfl) (q_int (x := IntKind.i64.wrap (99 + (m : Int))) (by kernel_rfl) (wrap_to (by omega) (by omega) (by omega))) ?_
        refine WL.q (.bool ((((pathN (chain m) ((chain m).length + 1) (m : Int)).getD (((m : Int) - 1).toNat) intE.dflt) : Int) != 99 + (m : Int))) (by kernel_rfl) rfl (by kernel_rfl) (by kernel_rfl) ?_
        refine WL.q (.bool ((((pathN (chain m) ((chain m).length + 1) (m : Int)).getD (((m : Int) - 1).toNat) intE.dflt) : Int) != 99 + (m : Int))) (by kernel_rfl) rfl (by kernel_rfl) (by kernel_rfl) ?_
        refine WL.nil ?_
        refine EX.then_code ?_
        refine CW.cond ((((pathN (chain m) ((chain m).length + 1) (m : Int)).getD (((m : Int) - 1).toNat) intE.dflt) : Int) != 99 + (m : Int)) (by kernel_rfl) (by kernel_rfl) (fun c15 => ?_) (fun c15 => ?_)
        ·
          skip
          have d16 := bne_true c15
          refine CW.seq ?_
          refine CW.region ?_
          refine WL.q (.bool false) (by kernel_rfl) rfl (by kernel_rfl) (by kernel_rfl) ?_
          refine WL.nil ?_
          refine EX.then_code ?_
          refine CW.ret ?_
          refine EX.ret_then ?_
          refine EX.ret1 (v := (.bool false)) rfl (by kernel_rfl) ?_
          first | (exfalso; omega) | (exfalso; simp only [List.length_append, List.length_cons, List.length_nil, List.nil_append] at *; omega) | (exfalso; simp_all; done)
        ·
          skip
          have d17 := bne_false c15
          refine CW.skip ?_
          refine EX.then_code ?_
          refine CW.seq ?_
          refine CW.region ?_
          refine WL.q (.pointer (some ⟨p2, 0, none⟩)) (by kernel_rfl) rfl (by kernel_rfl) (by kernel_rfl) ?_
          refine WL.q (.int .i64 (k : Int)) (by kernel_rfl) rfl (by kernel_rfl) (by kernel_rfl) ?_
          refine WL.q (.int .i64 (100 + (k : Int))) (by kernel_rfl) rfl (by kernel_rfl) (q_int (x := IntKind.i64.wrap (100 + (k : Int))) (by kernel_rfl) (wrap_to (by omega) (by omega) (by omega))) ?_
          refine WL.call (by kernel_rfl) rfl (by kernel_rfl) (by kernel_rfl) (dropT_spec G8 A3 (by (rw [chain_len]; omega)) (by omega) (100 + (k : Int))) (RetM.elim ?_)
          rintro w18 h18 M18 _ l18 G18 ⟨ad18, rfl, rd18, A18⟩
          have wf_ : RowWf (chain m) (m : Int) := TreeA.wf (by assumption)
          have hfk := chain_fact (m := m) (k := k) (by omega)
          have hcf : cutF (chain m) (factsOf (chain m) (100 + (k : Int))) = chain k := by rw [hfk]; exact chain_cut wf_ (by omega)
          have hcl := cut_ids_len wf_ (factsOf (chain m) (100 + (k : Int)))
          rw [hcf, chain_len, chain_len] at hcl
          have A1_ := A18
          rw [hcf] at A1_
          refine WL.q (.int .i64 ((idsF (chain m) (factsOf (chain m) (100 + (k : Int)))).length : Int)) (by kernel_rfl) rfl (by kernel_rfl) (by kernel_rfl) ?_
          refine WL.q (.int .i64 (m : Int)) (by kernel_rfl) rfl (by kernel_rfl) (by kernel_rfl) ?_
          refine WL.q (.int .i64 (k : Int)) (by kernel_rfl) rfl (by kernel_rfl) (by kernel_rfl) ?_
          refine WL.q (.int .i64 ((m : Int) - (k : Int))) (by kernel_rfl) rfl (by kernel_rfl) (q_int (x := IntKind.i64.wrap ((m : Int) - (k : Int))) (by kernel_rfl) (wrap_to (by omega) (by omega) (by omega))) ?_
          refine WL.q (.bool ((((idsF (chain m) (factsOf (chain m) (100 + (k : Int)))).length : Int) : Int) == (m : Int) - (k : Int))) (by kernel_rfl) rfl (by kernel_rfl) (by kernel_rfl) ?_
          refine WL.q (.bool ((((idsF (chain m) (factsOf (chain m) (100 + (k : Int)))).length : Int) : Int) == (m : Int) - (k : Int))) (by kernel_rfl) rfl (by kernel_rfl) (by kernel_rfl) ?_
          rcases bool_cases ((((idsF (chain m) (factsOf (chain m) (100 + (k : Int)))).length : Int) : Int) == (m : Int) - (k : Int)) with c19 | c19
          ·
            skip
            have d20 := eq_of_beq c19
            refine WL.know 80 (.bool true) (x := .bool ((((idsF (chain m) (factsOf (chain m) (100 + (k : Int)))).length : Int) : Int) == (m : Int) - (k : Int))) (by kernel_rfl) (congrArg Value.bool c19) ?_
            refine WL.q (.pointer (some ⟨p2, 0, none⟩)) (by kernel_rfl) rfl (by kernel_rfl) (by kernel_rfl) ?_
            refine WL.call (by kernel_rfl) rfl (by kernel_rfl) (by kernel_rfl) (lenT_spec (row := (chain k)) G18 A1_ (by (rw [chain_len]; omega))) (Ret.elim ?_)
            rintro w21 h21 _ l21 G21 rfl
            have hck := chain_len k
            refine WL.q (.int .i64 (k : Int)) (by kernel_rfl) rfl (by kernel_rfl) (by kernel_rfl) ?_
            refine WL.q (.bool ((((chain k).length : Int) : Int) == (k : Int))) (by kernel_rfl) rfl (by kernel_rfl) (by kernel_rfl) ?_
            refine WL.q (.bool ((((chain k).length : Int) : Int) == (k : Int))) (by kernel_rfl) rfl (by kernel_rfl) (by kernel_rfl) ?_
            refine WL.q (.bool ((((chain k).length : Int) : Int) == (k : Int))) (by kernel_rfl) rfl (by kernel_rfl) (by kernel_rfl) ?_
            rcases bool_cases ((((chain k).length : Int) : Int) == (k : Int)) with c22 | c22
            ·
              skip
              have d23 := eq_of_beq c22
              refine WL.know 86 (.bool true) (x := .bool ((((chain k).length : Int) : Int) == (k : Int))) (by kernel_rfl) (congrArg Value.bool c22) ?_
              refine WL.q (.pointer (some ⟨p2, 0, none⟩)) (by kernel_rfl) rfl (by kernel_rfl) (by kernel_rfl) ?_
              refine WL.q (.int .i64 (k : Int)) (by kernel_rfl) rfl (by kernel_rfl) (by kernel_rfl) ?_
              refine WL.q (.int .i64 (100 + (k : Int))) (by kernel_rfl) rfl (by kernel_rfl) (q_int (x := IntKind.i64.wrap (100 + (k : Int))) (by kernel_rfl) (wrap_to (by omega) (by omega) (by omega))) ?_
              have hz0 : (idsF (chain k) (factsOf (chain k) (100 + (k : Int)))).length = 0 := by rw [chain_fact_none, idsF_nil A1_.wf]; rfl
              refine WL.call (by kernel_rfl) rfl (by kernel_rfl) (by kernel_rfl) (dropT_spec G21 A1_ (by (rw [chain_len]; omega)) (by omega) (100 + (k : Int))) (RetM.elim ?_)
              rintro w24 h24 M24 _ l24 G24 ⟨ad24, rfl, rd24, A24⟩
              refine WL.q (.int .i64 ((idsF (chain k) (factsOf (chain k) (100 + (k : Int)))).length : Int)) (by kernel_rfl) rfl (by kernel_rfl) (by kernel_rfl) ?_
              refine WL.q (.bool ((((idsF (chain k) (factsOf (chain k) (100 + (k : Int)))).length : Int) : Int) == 0)) (by kernel_rfl) rfl (by kernel_rfl) (by kernel_rfl) ?_
              refine WL.q (.bool ((((idsF (chain k) (factsOf (chain k) (100 + (k : Int)))).length : Int) : Int) == 0)) (by kernel_rfl) rfl (by kernel_rfl) (by kernel_rfl) ?_
              refine WL.q (.bool ((((idsF (chain k) (factsOf (chain k) (100 + (k : Int)))).length : Int) : Int) == 0)) (by kernel_rfl) rfl (by kernel_rfl) (by kernel_rfl) ?_
              refine WL.nil ?_
              refine EX.then_code ?_
              refine CW.ret ?_
              refine EX.ret1 (v := (.bool ((((idsF (chain k) (factsOf (chain k) (100 + (k : Int)))).length : Int) : Int) == 0))) rfl (by kernel_rfl) ?_
              exact Ret.mk ((((((((PH.le_refl _).trans l1).trans l2).trans l3).trans l8).trans l18).trans l21).trans l24) (G24.drop A24.le) (congrArg Value.bool (beq_iff_eq.2 (by omega)))
            ·
              skip
              have d25 := ne_of_beq_false c22
              refine WL.know 86 (.bool false) (x := .bool ((((chain k).length : Int) : Int) == (k : Int))) (by kernel_rfl) (congrArg Value.bool c22) ?_
              refine WL.skip (by kernel_rfl) rfl (by kernel_rfl) ?_
              refine WL.skip (by kernel_rfl) rfl (by kernel_rfl) ?_
              refine WL.skip (by kernel_rfl) rfl (by kernel_rfl) ?_
              refine WL.skip (by kernel_rfl) rfl (by kernel_rfl) ?_
              refine WL.skip (by kernel_rfl) rfl (by kernel_rfl) ?_
              refine WL.skip (by kernel_rfl) rfl (by kernel_rfl) ?_
              refine WL.q (.bool false) (by kernel_rfl) rfl (by kernel_rfl) (by kernel_rfl) ?_
              refine WL.q (.bool false) (by kernel_rfl) rfl (by kernel_rfl) (by kernel_rfl) ?_
              refine WL.nil ?_
              refine EX.then_code ?_
              refine CW.ret ?_
              refine EX.ret1 (v := (.bool false)) rfl (by kernel_rfl) ?_
              first | (exfalso; omega) | (exfalso; simp only [List.length_append, List.length_cons, List.length_nil, List.nil_append] at *; omega) | (exfalso; simp_all; done)
          ·
            skip
            have d26 := ne_of_beq_false c19
            refine WL.know 80 (.bool false) (x := .bool ((((idsF (chain m) (factsOf (chain m) (100 + (k : Int)))).length : Int) : Int) == (m : Int) - (k : Int))) (by kernel_rfl) (congrArg Value.bool c19) ?_
            refine WL.skip (by kernel_rfl) rfl (by kernel_rfl) ?_
            refine WL.skip (by kernel_rfl) rfl (by kernel_rfl) ?_
            refine WL.skip (by kernel_rfl) rfl (by kernel_rfl) ?_
            refine WL.skip (by kernel_rfl) rfl (by kernel_rfl) ?_
            refine WL.q (.bool false) (by kernel_rfl) rfl (by kernel_rfl) (by kernel_rfl) ?_
            refine WL.q (.bool false) (by kernel_rfl) rfl (by kernel_rfl) (by kernel_rfl) ?_
            refine WL.skip (by kernel_rfl) rfl (by kernel_rfl) ?_
            refine WL.skip (by kernel_rfl) rfl (by kernel_rfl) ?_
            refine WL.skip (by kernel_rfl) rfl (by kernel_rfl) ?_
            refine WL.skip (by kernel_rfl) rfl (by kernel_rfl) ?_
            refine WL.skip (by kernel_rfl) rfl (by kernel_rfl) ?_
            refine WL.skip (by kernel_rfl) rfl (by kernel_rfl) ?_
            refine WL.q (.bool false) (by kernel_rfl) rfl (by kernel_rfl) (by kernel_rfl) ?_
            refine WL.q (.bool false) (by kernel_rfl) rfl (by kernel_rfl) (by kernel_rfl) ?_
            refine WL.nil ?_
            refine EX.then_code ?_
            refine CW.ret ?_
            refine EX.ret1 (v := (.bool false)) rfl (by kernel_rfl) ?_
            first | (exfalso; omega) | (exfalso; simp only [List.length_append, List.length_cons, List.length_nil, List.nil_append] at *; omega) | (exfalso; simp_all; done)
end Go.Proofs
