import Derived.Test.YthlcldgcjilfcaaWy
import Derived.Test.YthlcldgcjilfcaaChecked
namespace Go.Proofs
open Go Go.Wk
theorem idxF_any {S : Type} (p : S → Bool) (xs : List S) : xs.any p = decide (0 ≤ idxF p xs) := by
  unfold idxF
  cases hf : xs.findIdx? p with
  | none =>
    rw [List.findIdx?_eq_none_iff] at hf
    simpa using hf
  | some i =>
    rw [List.findIdx?_eq_some_iff_getElem] at hf
    obtain ⟨h1, h2, _⟩ := hf
    simp only [Int.natCast_nonneg, decide_true]
    exact List.any_eq_true.2 ⟨_, List.getElem_mem h1, h2⟩

theorem clipW_spec {K : Key} {w : World} {h M : PH} (G : Wld K w h M) {a : Option Addr} {m c : Nat} (hc : m ≤ c) :
    Calls Try.prog 26 #[.slice a m c] w (Ret K h M fun _ v => v = .slice a m m) := by
  refine enter (l := [(.slice a m c)]) Try.func26 rfl Try.ntmps26 (Nat.le_of_ble_eq_true rfl) ?_
  simp only [params]
  refine CW.seq ?_
  refine CW.region ?_
  refine WL.q (.slice none 0 0) (by kernel_rfl) rfl (by kernel_rfl) (by kernel_rfl) ?_
  refine WL.nil ?_
  refine EX.then_code ?_
  refine CW.seq ?_
  refine CW.region ?_
  refine WL.q (.slice a m c) (by kernel_rfl) rfl (by kernel_rfl) (by kernel_rfl) ?_
  refine WL.q (.slice a m c) (by kernel_rfl) rfl (by kernel_rfl) (by kernel_rfl) ?_
  refine WL.q (.int .i64 (m : Int)) (by kernel_rfl) rfl (by kernel_rfl) (by kernel_rfl) ?_
  refine WL.q (.slice a m c) (by kernel_rfl) rfl (by kernel_rfl) (by kernel_rfl) ?_
  refine WL.q (.int .i64 (m : Int)) (by kernel_rfl) rfl (by kernel_rfl) (by kernel_rfl) ?_
  refine WL.q (.slice a m m) (by kernel_rfl) rfl (by kernel_rfl) (q_clip (e := 28) (sz := 3) (cap := c) (k := .i64) (k' := .i64) rfl (by kernel_rfl) (by kernel_rfl) (by kernel_rfl) (by kernel_rfl) (by omega)) ?_
  refine WL.q (.slice a m m) (by kernel_rfl) rfl (by kernel_rfl) (by kernel_rfl) ?_
  refine WL.nil ?_
  refine EX.then_code ?_
  refine CW.ret ?_
  refine EX.ret1 (v := (.slice a m m)) rfl (by kernel_rfl) ?_
  exact Ret.mk (PH.le_refl _) G rfl

theorem clipI_spec {K : Key} {w : World} {h M : PH} (G : Wld K w h M) {a : Option Addr} {m c : Nat} (hc : m ≤ c) :
    Calls Try.prog 31 #[.slice a m c] w (Ret K h M fun _ v => v = .slice a m m) := by
  refine enter (l := [(.slice a m c)]) Try.func31 rfl Try.ntmps31 (Nat.le_of_ble_eq_true rfl) ?_
  simp only [params]
  refine CW.seq ?_
  refine CW.region ?_
  refine WL.q (.slice none 0 0) (by kernel_rfl) rfl (by kernel_rfl) (by kernel_rfl) ?_
  refine WL.nil ?_
  refine EX.then_code ?_
  refine CW.seq ?_
  refine CW.region ?_
  refine WL.q (.slice a m c) (by kernel_rfl) rfl (by kernel_rfl) (by kernel_rfl) ?_
  refine WL.q (.slice a m c) (by kernel_rfl) rfl (by kernel_rfl) (by kernel_rfl) ?_
  refine WL.q (.int .i64 (m : Int)) (by kernel_rfl) rfl (by kernel_rfl) (by kernel_rfl) ?_
  refine WL.q (.slice a m c) (by kernel_rfl) rfl (by kernel_rfl) (by kernel_rfl) ?_
  refine WL.q (.int .i64 (m : Int)) (by kernel_rfl) rfl (by kernel_rfl) (by kernel_rfl) ?_
  refine WL.q (.slice a m m) (by kernel_rfl) rfl (by kernel_rfl) (q_clip (e := 3) (sz := 1) (cap := c) (k := .i64) (k' := .i64) rfl (by kernel_rfl) (by kernel_rfl) (by kernel_rfl) (by kernel_rfl) (by omega)) ?_
  refine WL.q (.slice a m m) (by kernel_rfl) rfl (by kernel_rfl) (by kernel_rfl) ?_
  refine WL.nil ?_
  refine EX.then_code ?_
  refine CW.ret ?_
  refine EX.ret1 (v := (.slice a m m)) rfl (by kernel_rfl) ?_
  exact Ret.mk (PH.le_refl _) G rfl

theorem cloneI_spec_nil {K : Key} {w : World} {h M : PH} (G : Wld K w h M) {xs : List Int} {c : Nat} (Hx : RS (PH.all w) intE none xs) (hb : xs.length ≤ 1000000) :
    Calls Try.prog 35 #[.slice none xs.length c] w (RetM K h fun h' M' v => ∃ a' c', v = .slice a' xs.length c' ∧ Own 3 intE M M' a' c' xs ∧ (none = (none : Option Addr) → a' = none)) := by
  refine enter (l := [(.slice none xs.length c)]) Try.func35 rfl Try.ntmps35 (Nat.le_of_ble_eq_true rfl) ?_
  simp only [params]
  refine CW.seq ?_
  refine CW.region ?_
  refine WL.q (.slice none 0 0) (by kernel_rfl) rfl (by kernel_rfl) (by kernel_rfl) ?_
  refine WL.nil ?_
  refine EX.then_code ?_
  refine CW.seq ?_
  refine CW.seq ?_
  refine CW.region ?_
  refine WL.q (.slice none xs.length c) (by kernel_rfl) rfl (by kernel_rfl) (by kernel_rfl) ?_
  refine WL.q (.bool true) (by kernel_rfl) rfl (by kernel_rfl) (by kernel_rfl) ?_
  refine WL.nil ?_
  refine EX.then_code ?_
  refine CW.cond_t (by kernel_rfl) (by kernel_rfl) ?_
  refine CW.seq ?_
  refine CW.region ?_
  refine WL.q (.slice none 0 0) (by kernel_rfl) rfl (by kernel_rfl) (by kernel_rfl) ?_
  refine WL.nil ?_
  refine EX.then_code ?_
  refine CW.ret ?_
  refine EX.ret_then ?_
  refine EX.ret1 (v := (.slice none 0 0)) rfl (by kernel_rfl) ?_
  have hx : xs = [] := by rcases Hx with r_ | ⟨_, _, _, _, _, r_, _⟩; (exact r_); (cases r_)
  subst hx
  exact RetM.mk (PH.le_refl _) G ⟨none, 0, rfl, Own.nil _ _ _, fun _ => rfl⟩

theorem cloneI_spec_some {K : Key} {w : World} {h M : PH} (G : Wld K w h M) {ad : Addr} {xs : List Int} {c : Nat} (Hx : RS (PH.all w) intE (some ad) xs) (hb : xs.length ≤ 1000000) :
    Calls Try.prog 35 #[.slice (some ad) xs.length c] w (RetM K h fun h' M' v => ∃ a' c', v = .slice a' xs.length c' ∧ Own 3 intE M M' a' c' xs ∧ (some ad = none → a' = none)) := by
  refine enter (l := [(.slice (some ad) xs.length c)]) Try.func35 rfl Try.ntmps35 (Nat.le_of_ble_eq_true rfl) ?_
  simp only [params]
  refine CW.seq ?_
  refine CW.region ?_
  refine WL.q (.slice none 0 0) (by kernel_rfl) rfl (by kernel_rfl) (by kernel_rfl) ?_
  refine WL.nil ?_
  refine EX.then_code ?_
  refine CW.seq ?_
  refine CW.seq ?_
  refine CW.region ?_
  refine WL.q (.slice (some ad) xs.length c) (by kernel_rfl) rfl (by kernel_rfl) (by kernel_rfl) ?_
  refine WL.q (.bool false) (by kernel_rfl) rfl (by kernel_rfl) (by kernel_rfl) ?_
  refine WL.nil ?_
  refine EX.then_code ?_
  refine CW.cond_f (by kernel_rfl) (by kernel_rfl) ?_
  refine CW.skip ?_
  refine EX.then_code ?_
  refine CW.seq ?_
  refine CW.region ?_
  refine WL.ex (by kernel_rfl) rfl (by kernel_rfl) (q_newB (ob := (.cells #[] 3 (0, 0))) G (fun b_ => .slice (some ⟨b_, 0, none⟩) 0 0) (fun u_ => by kernel_rfl)) ?_
  rintro _ w1 ⟨b1, M1, rfl, G1, B1, L1⟩
  have o1 : Own 3 intE M M1 (some ⟨b1, 0, none⟩) 0 ([] : List _) := Own.lit2 B1 (by kernel_rfl) (by kernel_rfl) (by decide)
  refine WL.q (.slice (some ad) xs.length c) (by kernel_rfl) rfl (by kernel_rfl) (by kernel_rfl) ?_
  refine WL.ex (by kernel_rfl) rfl (by kernel_rfl) (q_app (e := 3) (bytes := 8) (cap := 0) (c2 := c) (M0 := M) (xs := ([] : List _)) (ys := xs) G1 o1 (Hx.mono L1) rfl (by kernel_rfl) (by kernel_rfl) (by kernel_rfl) (by first | (simp only [maxLen, List.length_append, List.length_cons, List.length_nil]; omega) | (simp only [maxLen]; omega)) (by first | omega | (simp only [List.length_append, List.length_cons, List.length_nil]; omega))) ?_
  rintro _ w2 ⟨a2, k2, M2, rfl, G2, o2, z2⟩
  refine WL.q (.slice a2 (([] ++ xs).length) k2) (by kernel_rfl) rfl (by kernel_rfl) (by kernel_rfl) ?_
  refine WL.nil ?_
  refine EX.then_code ?_
  refine CW.ret ?_
  refine EX.ret1 (v := (.slice a2 (([] ++ xs).length) k2)) rfl (by kernel_rfl) ?_
  exact RetM.mk (PH.le_refl _) G2 (⟨_, _, rfl, o2, fun e_ => by cases e_⟩)

theorem cloneI_spec {K : Key} {w : World} {h M : PH} (G : Wld K w h M) {a : Option Addr} {xs : List Int} {c : Nat} (Hx : RS (PH.all w) intE a xs) (hb : xs.length ≤ 1000000) :
    Calls Try.prog 35 #[.slice a xs.length c] w (RetM K h fun h' M' v => ∃ a' c', v = .slice a' xs.length c' ∧ Own 3 intE M M' a' c' xs ∧ (a = none → a' = none)) := by
  cases a with
  | none => exact cloneI_spec_nil G Hx hb
  | some ad => exact cloneI_spec_some G Hx hb

theorem eqI_spec {K : Key} {w : World} {h M : PH} (G : Wld K w h M) {ax ay : Option Addr} {xs ys : List Int} {cx cy : Nat} (Hx : RS h intE ax xs) (Hy : RS h intE ay ys) (hb : xs.length ≤ 1000000) :
    Calls Try.prog 41 #[.slice ax xs.length cx, .slice ay ys.length cy] w (Ret K h M fun _ v => v = .bool (sameL xs ys)) := by
  refine enter (l := [(.slice ax xs.length cx), (.slice ay ys.length cy)]) Try.func41 rfl Try.ntmps41 (Nat.le_of_ble_eq_true rfl) ?_
  simp only [params]
  refine CW.seq ?_
  refine CW.region ?_
  refine WL.q (.bool false) (by kernel_rfl) rfl (by kernel_rfl) (by kernel_rfl) ?_
  refine WL.nil ?_
  refine EX.then_code ?_
  refine CW.seq ?_
  refine CW.seq ?_
  refine CW.region ?_
  refine WL.q (.slice ax xs.length cx) (by kernel_rfl) rfl (by kernel_rfl) (by kernel_rfl) ?_
  refine WL.q (.int .i64 (xs.length : Int)) (by kernel_rfl) rfl (by kernel_rfl) (by kernel_rfl) ?_
  refine WL.q (.slice ay ys.length cy) (by kernel_rfl) rfl (by kernel_rfl) (by kernel_rfl) ?_
  refine WL.q (.int .i64 (ys.length : Int)) (by kernel_rfl) rfl (by kernel_rfl) (by kernel_rfl) ?_
  refine WL.q (.bool (((xs.length : Int) : Int) != (ys.length : Int))) (by kernel_rfl) rfl (by kernel_rfl) (by kernel_rfl) ?_
  refine WL.nil ?_
  refine EX.then_code ?_
  refine CW.cond (((xs.length : Int) : Int) != (ys.length : Int)) (by kernel_rfl) (by kernel_rfl) (fun c3 => ?_) (fun c3 => ?_)
  ·
    skip
    have d4 := bne_true c3
    refine CW.seq ?_
    refine CW.region ?_
    refine WL.q (.bool false) (by kernel_rfl) rfl (by kernel_rfl) (by kernel_rfl) ?_
    refine WL.nil ?_
    refine EX.then_code ?_
    refine CW.ret ?_
    refine EX.ret_then ?_
    refine EX.ret1 (v := (.bool false)) rfl (by kernel_rfl) ?_
    exact Ret.mk (PH.le_refl _) G (congrArg Value.bool ((sameL_f (by first | exact .inl (by omega) | exact .inr ⟨k, by omega, by assumption⟩)).symm))
  ·
    skip
    have d5 := bne_false c3
    refine CW.skip ?_
    refine EX.then_code ?_
    refine CW.seq ?_
    refine CW.seq ?_
    refine CW.region ?_
    refine WL.q (.slice ax xs.length cx) (by kernel_rfl) rfl (by kernel_rfl) (by kernel_rfl) ?_
    refine WL.q (.int .i64 (xs.length : Int)) (by kernel_rfl) rfl (by kernel_rfl) (by kernel_rfl) ?_
    refine WL.q (.int .i64 0) (by kernel_rfl) rfl (by kernel_rfl) (by kernel_rfl) ?_
    refine WL.nil ?_
    refine EX.then_code ?_
    refine CW.block ?_
    refine CW.loop (β := Nat) (fun x_ => [(0, (.slice ax xs.length cx)), (1, (.slice ay ys.length cy)), (12, (.int .i64 (xs.length : Int))), (13, (.int .i64 (x_ : Int)))]) (fun x_ w_ => ∃ h_, (PH.le h h_) ∧ (Wld K w_ h_ M) ∧ (x_ ≤ xs.length) ∧ (∀ j < x_, xs.getD j 0 = ys.getD j 0)) (fun x_ => xs.length - x_) 0 ⟨(by kernel_rfl), (by kernel_rfl), (by kernel_rfl), (lk_int (x := 0) (by kernel_rfl) (by first | omega | (dsimp only; omega) | rfl | (dsimp only; rfl))), trivial⟩ ⟨h, (PH.le_refl _), G, (by first | omega | assumption | (dsimp only [List.length_nil, List.length_append, List.length_cons]; omega)), (by simp)⟩ ?_
    rintro k w6 ⟨h6, l6, G6, hk, hn⟩
    try dsimp only at *
    refine CW.seq ?_
    refine CW.region ?_
    refine WL.q (.bool (decide ((k : Int) < (xs.length : Int)))) (by kernel_rfl) rfl (by kernel_rfl) (by kernel_rfl) ?_
    refine WL.nil ?_
    refine EX.then_code ?_
    refine CW.seq ?_
    refine CW.cond (decide ((k : Int) < (xs.length : Int))) (by kernel_rfl) (by kernel_rfl) (fun c7 => ?_) (fun c7 => ?_)
    ·
      skip
      have d8 := of_decide_eq_true c7
      refine CW.skip ?_
      refine EX.then_code ?_
      refine CW.seq ?_
      refine CW.block ?_
      refine CW.seq ?_
      refine CW.region ?_
      refine WL.q (.int .i64 (k : Int)) (by kernel_rfl) rfl (by kernel_rfl) (by kernel_rfl) ?_
      refine WL.q (.int .i64 (k : Int)) (by kernel_rfl) rfl (by kernel_rfl) (by kernel_rfl) ?_
      refine WL.nil ?_
      refine EX.then_code ?_
      refine CW.seq ?_
      refine CW.draw (by kernel_rfl) [(3, fun w_ => RS (PH.all w_) intE ax xs), (7, fun w_ => RS (PH.all w_) intE ay ys)] ?_
      refine DW.take (T := fun _ => True) 0 (.slice ax xs.length cx) rfl (by kernel_rfl) rfl (by kernel_rfl) (.inl fun _ => trivial) (by kernel_rfl) (Deaf.thens (Deaf.block (Deaf.thens (Deaf.thens (Deaf.block (Deaf.thens (Deaf.body RetM.not_panicked))))))) (fun w_ _ => (by kernel_rfl)) trivial ?_
      refine DW.take (T := fun _ => True) 1 (.int .i64 (k : Int)) rfl (by kernel_rfl) rfl (by kernel_rfl) (.inl fun _ => trivial) (by kernel_rfl) (Deaf.thens (Deaf.block (Deaf.thens (Deaf.thens (Deaf.block (Deaf.thens (Deaf.body RetM.not_panicked))))))) (fun w_ _ => (by kernel_rfl)) trivial ?_
      refine DW.take (T := fun _ => True) 2 (eptr ax (k * intE.sz)) rfl (by kernel_rfl) rfl (by kernel_rfl) (.inl fun _ => trivial) (by kernel_rfl) (Deaf.thens (Deaf.block (Deaf.thens (Deaf.thens (Deaf.block (Deaf.thens (Deaf.body RetM.not_panicked))))))) (fun w_ _ => (q_indexAddr (i := k) (E := intE) (xs := xs) (e := 3) (c := cx) (k := .i64) (m := xs.length) rfl rfl (by kernel_rfl) (by kernel_rfl) (by kernel_rfl) (Hx.mono (l6.trans (G6.drew).imm)) (by omega))) trivial ?_
      refine DW.take (T := fun w_ => RS (PH.all w_) intE ax xs) 3 (.int .i64 (xs.getD k intE.dflt)) rfl (by kernel_rfl) rfl (by kernel_rfl) (.inr (by first | exact .head _ | exact .tail _ (.head _) | exact .tail _ (.tail _ (.head _)) | exact .tail _ (.tail _ (.tail _ (.head _))) | simp)) (by kernel_rfl) (Deaf.thens (Deaf.block (Deaf.thens (Deaf.thens (Deaf.block (Deaf.thens (Deaf.body RetM.not_panicked))))))) (fun w_ T_ => (q_load_e (i := k) (k := 0) (E := intE) rfl (by kernel_rfl) (by kernel_rfl) T_ (by omega) (by decide) (by kernel_rfl))) (Hx.mono (l6.trans (G6.drew).imm)) ?_
      refine DW.take (T := fun _ => True) 4 (.slice ay ys.length cy) rfl (by kernel_rfl) rfl (by kernel_rfl) (.inl fun _ => trivial) (by kernel_rfl) (Deaf.thens (Deaf.block (Deaf.thens (Deaf.thens (Deaf.block (Deaf.thens (Deaf.body RetM.not_panicked))))))) (fun w_ _ => (by kernel_rfl)) trivial ?_
      refine DW.take (T := fun _ => True) 5 (.int .i64 (k : Int)) rfl (by kernel_rfl) rfl (by kernel_rfl) (.inl fun _ => trivial) (by kernel_rfl) (Deaf.thens (Deaf.block (Deaf.thens (Deaf.thens (Deaf.block (Deaf.thens (Deaf.body RetM.not_panicked))))))) (fun w_ _ => (by kernel_rfl)) trivial ?_
      refine DW.take (T := fun _ => True) 6 (eptr ay (k * intE.sz)) rfl (by kernel_rfl) rfl (by kernel_rfl) (.inl fun _ => trivial) (by kernel_rfl) (Deaf.thens (Deaf.block (Deaf.thens (Deaf.thens (Deaf.block (Deaf.thens (Deaf.body RetM.not_panicked))))))) (fun w_ _ => (q_indexAddr (i := k) (E := intE) (xs := ys) (e := 3) (c := cy) (k := .i64) (m := ys.length) rfl rfl (by kernel_rfl) (by kernel_rfl) (by kernel_rfl) (Hy.mono (l6.trans (G6.drew).imm)) (by omega))) trivial ?_
      refine DW.take (T := fun w_ => RS (PH.all w_) intE ay ys) 7 (.int .i64 (ys.getD k intE.dflt)) rfl (by kernel_rfl) rfl (by kernel_rfl) (.inr (by first | exact .head _ | exact .tail _ (.head _) | exact .tail _ (.tail _ (.head _)) | exact .tail _ (.tail _ (.tail _ (.head _))) | simp)) (by kernel_rfl) (Deaf.thens (Deaf.block (Deaf.thens (Deaf.thens (Deaf.block (Deaf.thens (Deaf.body RetM.not_panicked))))))) (fun w_ T_ => (q_load_e (i := k) (k := 0) (E := intE) rfl (by kernel_rfl) (by kernel_rfl) T_ (by omega) (by decide) (by kernel_rfl))) (Hy.mono (l6.trans (G6.drew).imm)) ?_
      refine DW.take (T := fun _ => True) 8 (.bool (((xs.getD k intE.dflt) : Int) != (ys.getD k intE.dflt))) rfl (by kernel_rfl) rfl (by kernel_rfl) (.inl fun _ => trivial) (by kernel_rfl) (Deaf.thens (Deaf.block (Deaf.thens (Deaf.thens (Deaf.block (Deaf.thens (Deaf.body RetM.not_panicked))))))) (fun w_ _ => (by kernel_rfl)) trivial ?_
      refine DW.done (by kernel_rfl) ?_
      refine EX.then_code ?_
      refine CW.cond (((xs.getD k intE.dflt) : Int) != (ys.getD k intE.dflt)) (by kernel_rfl) (by kernel_rfl) (fun c9 => ?_) (fun c9 => ?_)
      ·
        skip
        have d10 := bne_true c9
        refine CW.seq ?_
        refine CW.region ?_
        refine WL.q (.bool false) (by kernel_rfl) rfl (by kernel_rfl) (by kernel_rfl) ?_
        refine WL.nil ?_
        refine EX.then_code ?_
        refine CW.ret ?_
        refine EX.ret_block ?_
        refine EX.ret_then ?_
        refine EX.ret_then ?_
        refine EX.ret_block ?_
        refine EX.ret_then ?_
        refine EX.ret1 (v := (.bool false)) rfl (by kernel_rfl) ?_
        exact Ret.mk l6 (G6.drew) (congrArg Value.bool ((sameL_f (by first | exact .inl (by omega) | exact .inr ⟨k, by omega, by assumption⟩)).symm))
      ·
        skip
        have d11 := bne_false c9
        refine CW.skip ?_
        refine EX.in_block ?_
        refine EX.then_code ?_
        refine CW.region ?_
        refine WL.q (.int .i64 ((k + 1 : Nat) : Int)) (by kernel_rfl) rfl (by kernel_rfl) (q_int (x := IntKind.i64.wrap ((k : Int) + 1)) (by kernel_rfl) (wrap_to (by omega) (by omega) (by omega))) ?_
        refine WL.q (.int .i64 ((k + 1 : Nat) : Int)) (by kernel_rfl) rfl (by kernel_rfl) (by kernel_rfl) ?_
        refine WL.nil ?_
        exact EX.then_loop (k + 1) ⟨(by kernel_rfl), (by kernel_rfl), (by kernel_rfl), (lk_int (x := ((k + 1 : Nat) : Int)) (by kernel_rfl) (by first | omega | (dsimp only; omega) | rfl | (dsimp only; rfl))), trivial⟩ ⟨h6, l6, (G6.drew), (by first | omega | assumption | (dsimp only [List.length_nil, List.length_append, List.length_cons]; omega)), (fun j hj => by rcases Nat.lt_or_ge j k with q | q; (exact hn j q); (obtain rfl : j = k := by omega); assumption)⟩ (by first | omega | (dsimp only; omega))
    ·
      skip
      have d12 := of_decide_eq_false c7
      refine CW.exit ?_
      refine EX.exit_then ?_
      refine EX.exit_then ?_
      refine EX.exit_here ?_
      refine EX.then_code ?_
      refine CW.seq ?_
      refine CW.region ?_
      refine WL.q (.bool true) (by kernel_rfl) rfl (by kernel_rfl) (by kernel_rfl) ?_
      refine WL.nil ?_
      refine EX.then_code ?_
      refine CW.ret ?_
      refine EX.ret1 (v := (.bool true)) rfl (by kernel_rfl) ?_
      exact Ret.mk l6 G6 (congrArg Value.bool ((sameL_t (by omega) (fun j hj => hn j (by omega))).symm))

theorem sameT_spec {K : Key} {w : World} {h M : PH} (G : Wld K w h M) {x y : WhyD} (gx : whyG h x) (gy : whyG h y) :
    Calls Try.prog 34 #[.agg (whyE.enc x).toArray, .agg (whyE.enc y).toArray] w (Ret K h M fun _ v => v = .bool (sameW x y)) := by
  refine enter (l := [(.agg #[(.int .i64 ((x).rule)), (.int .i64 ((x).alt)), (.slice ((x).a) ((x).facts.length) ((x).c))]), (.agg #[(.int .i64 ((y).rule)), (.int .i64 ((y).alt)), (.slice ((y).a) ((y).facts.length) ((y).c))])]) Try.func34 rfl Try.ntmps34 (Nat.le_of_ble_eq_true rfl) ?_
  simp only [params]
  refine CW.seq ?_
  refine CW.region ?_
  refine WL.ex (by kernel_rfl) rfl (by kernel_rfl) (q_newF (ob := (.cells #[(.int .i64 ((x).rule)), (.int .i64 ((x).alt)), (.slice ((x).a) ((x).facts.length) ((x).c))] 28 (0, 0))) G (fun b_ => .pointer (some ⟨b_, 0, none⟩)) (fun u_ => by kernel_rfl)) ?_
  rintro _ w13 ⟨b13, h13, rfl, l13, G13, hb13, L13⟩
  refine WL.ex (by kernel_rfl) rfl (by kernel_rfl) (q_newF (ob := (.cells #[(.int .i64 ((y).rule)), (.int .i64 ((y).alt)), (.slice ((y).a) ((y).facts.length) ((y).c))] 28 (0, 0))) G13 (fun b_ => .pointer (some ⟨b_, 0, none⟩)) (fun u_ => by kernel_rfl)) ?_
  rintro _ w14 ⟨b14, h14, rfl, l14, G14, hb14, L14⟩
  refine WL.q (.bool false) (by kernel_rfl) rfl (by kernel_rfl) (by kernel_rfl) ?_
  refine WL.nil ?_
  refine EX.then_code ?_
  refine CW.seq ?_
  refine CW.region ?_
  refine WL.q (.pointer (some ⟨b13, 0, none⟩)) (by kernel_rfl) rfl (by kernel_rfl) (by kernel_rfl) ?_
  refine WL.q (.int .i64 ((x).rule)) (by kernel_rfl) rfl (by kernel_rfl) (q_load (off := 0) rfl (by kernel_rfl) (by kernel_rfl) (G14.imm _ _ (l14 _ _ hb13)) (by kernel_rfl)) ?_
  refine WL.q (.pointer (some ⟨b14, 0, none⟩)) (by kernel_rfl) rfl (by kernel_rfl) (by kernel_rfl) ?_
  refine WL.q (.int .i64 ((y).rule)) (by kernel_rfl) rfl (by kernel_rfl) (q_load (off := 0) rfl (by kernel_rfl) (by kernel_rfl) (G14.imm _ _ ((PH.le_refl _) _ _ hb14)) (by kernel_rfl)) ?_
  refine WL.q (.bool (((x).rule : Int) == (y).rule)) (by kernel_rfl) rfl (by kernel_rfl) (by kernel_rfl) ?_
  refine WL.q (.bool (((x).rule : Int) == (y).rule)) (by kernel_rfl) rfl (by kernel_rfl) (by kernel_rfl) ?_
  rcases bool_cases (((x).rule : Int) == (y).rule) with c15 | c15
  ·
    skip
    have d16 := eq_of_beq c15
    refine WL.know 10 (.bool true) (x := .bool (((x).rule : Int) == (y).rule)) (by kernel_rfl) (congrArg Value.bool c15) ?_
    refine WL.q (.pointer (some ⟨b13, 1, none⟩)) (by kernel_rfl) rfl (by kernel_rfl) (by kernel_rfl) ?_
    refine WL.q (.int .i64 ((x).alt)) (by kernel_rfl) rfl (by kernel_rfl) (q_load (off := 1) rfl (by kernel_rfl) (by kernel_rfl) (G14.imm _ _ (l14 _ _ hb13)) (by kernel_rfl)) ?_
    refine WL.q (.pointer (some ⟨b14, 1, none⟩)) (by kernel_rfl) rfl (by kernel_rfl) (by kernel_rfl) ?_
    refine WL.q (.int .i64 ((y).alt)) (by kernel_rfl) rfl (by kernel_rfl) (q_load (off := 1) rfl (by kernel_rfl) (by kernel_rfl) (G14.imm _ _ ((PH.le_refl _) _ _ hb14)) (by kernel_rfl)) ?_
    refine WL.q (.bool (((x).alt : Int) == (y).alt)) (by kernel_rfl) rfl (by kernel_rfl) (by kernel_rfl) ?_
    refine WL.q (.bool (((x).alt : Int) == (y).alt)) (by kernel_rfl) rfl (by kernel_rfl) (by kernel_rfl) ?_
    refine WL.q (.bool (((x).alt : Int) == (y).alt)) (by kernel_rfl) rfl (by kernel_rfl) (by kernel_rfl) ?_
    rcases bool_cases (((x).alt : Int) == (y).alt) with c17 | c17
    ·
      skip
      have d18 := eq_of_beq c17
      refine WL.know 17 (.bool true) (x := .bool (((x).alt : Int) == (y).alt)) (by kernel_rfl) (congrArg Value.bool c17) ?_
      refine WL.q (.pointer (some ⟨b13, 2, none⟩)) (by kernel_rfl) rfl (by kernel_rfl) (by kernel_rfl) ?_
      refine WL.q (.slice ((x).a) ((x).facts.length) ((x).c)) (by kernel_rfl) rfl (by kernel_rfl) (q_load (off := 2) rfl (by kernel_rfl) (by kernel_rfl) (G14.imm _ _ (l14 _ _ hb13)) (by kernel_rfl)) ?_
      refine WL.q (.pointer (some ⟨b14, 2, none⟩)) (by kernel_rfl) rfl (by kernel_rfl) (by kernel_rfl) ?_
      refine WL.q (.slice ((y).a) ((y).facts.length) ((y).c)) (by kernel_rfl) rfl (by kernel_rfl) (q_load (off := 2) rfl (by kernel_rfl) (by kernel_rfl) (G14.imm _ _ ((PH.le_refl _) _ _ hb14)) (by kernel_rfl)) ?_
      refine WL.call (by kernel_rfl) rfl (by kernel_rfl) (by kernel_rfl) (eqI_spec (xs := ((x).facts)) (ys := ((y).facts)) (cx := ((x).c)) (cy := ((y).c)) G14 (gx.1.mono (l13.trans l14)) (gy.1.mono (l13.trans l14)) (by have := gx.2; omega)) (Ret.elim ?_)
      rintro w19 h19 _ l19 G19 rfl
      refine WL.q (.bool (sameL ((x).facts) ((y).facts))) (by kernel_rfl) rfl (by kernel_rfl) (by kernel_rfl) ?_
      refine WL.q (.bool (sameL ((x).facts) ((y).facts))) (by kernel_rfl) rfl (by kernel_rfl) (by kernel_rfl) ?_
      refine WL.nil ?_
      refine EX.then_code ?_
      refine CW.ret ?_
      refine EX.ret1 (v := (.bool (sameL ((x).facts) ((y).facts)))) rfl (by kernel_rfl) ?_
      exact Ret.mk ((l13.trans l14).trans l19) G19 (by rw [sameW_r (by assumption) (by assumption)]; rfl)
    ·
      skip
      have d20 := ne_of_beq_false c17
      refine WL.know 17 (.bool false) (x := .bool (((x).alt : Int) == (y).alt)) (by kernel_rfl) (congrArg Value.bool c17) ?_
      refine WL.skip (by kernel_rfl) rfl (by kernel_rfl) ?_
      refine WL.skip (by kernel_rfl) rfl (by kernel_rfl) ?_
      refine WL.skip (by kernel_rfl) rfl (by kernel_rfl) ?_
      refine WL.skip (by kernel_rfl) rfl (by kernel_rfl) ?_
      refine WL.skip (by kernel_rfl) rfl (by kernel_rfl) ?_
      refine WL.q (.bool false) (by kernel_rfl) rfl (by kernel_rfl) (by kernel_rfl) ?_
      refine WL.q (.bool false) (by kernel_rfl) rfl (by kernel_rfl) (by kernel_rfl) ?_
      refine WL.nil ?_
      refine EX.then_code ?_
      refine CW.ret ?_
      refine EX.ret1 (v := (.bool false)) rfl (by kernel_rfl) ?_
      exact Ret.mk (l13.trans l14) G14 (by have := sameW_no (x := x) (y := y) (by first | exact .inl (by assumption) | exact .inr (.inl (by assumption))); simp [this])
  ·
    skip
    have d21 := ne_of_beq_false c15
    refine WL.know 10 (.bool false) (x := .bool (((x).rule : Int) == (y).rule)) (by kernel_rfl) (congrArg Value.bool c15) ?_
    refine WL.skip (by kernel_rfl) rfl (by kernel_rfl) ?_
    refine WL.skip (by kernel_rfl) rfl (by kernel_rfl) ?_
    refine WL.skip (by kernel_rfl) rfl (by kernel_rfl) ?_
    refine WL.skip (by kernel_rfl) rfl (by kernel_rfl) ?_
    refine WL.skip (by kernel_rfl) rfl (by kernel_rfl) ?_
    refine WL.q (.bool false) (by kernel_rfl) rfl (by kernel_rfl) (by kernel_rfl) ?_
    refine WL.q (.bool false) (by kernel_rfl) rfl (by kernel_rfl) (by kernel_rfl) ?_
    refine WL.skip (by kernel_rfl) rfl (by kernel_rfl) ?_
    refine WL.skip (by kernel_rfl) rfl (by kernel_rfl) ?_
    refine WL.skip (by kernel_rfl) rfl (by kernel_rfl) ?_
    refine WL.skip (by kernel_rfl) rfl (by kernel_rfl) ?_
    refine WL.skip (by kernel_rfl) rfl (by kernel_rfl) ?_
    refine WL.q (.bool false) (by kernel_rfl) rfl (by kernel_rfl) (by kernel_rfl) ?_
    refine WL.q (.bool false) (by kernel_rfl) rfl (by kernel_rfl) (by kernel_rfl) ?_
    refine WL.nil ?_
    refine EX.then_code ?_
    refine CW.ret ?_
    refine EX.ret1 (v := (.bool false)) rfl (by kernel_rfl) ?_
    exact Ret.mk (l13.trans l14) G14 (by have := sameW_no (x := x) (y := y) (by first | exact .inl (by assumption) | exact .inr (.inl (by assumption))); simp [this])

theorem isC_spec {K : Key} {w : World} {h M : PH} (G : Wld K w h M) {x y : WhyD} (gx : whyG h x) (gy : whyG h y) {b : Nat} (hb : h b = some (.cells (whyE.enc y).toArray 28 (0, 0))) :
    Calls Try.prog 33 #[.agg (whyE.enc x).toArray, .pointer (some ⟨b, 0, none⟩)] w (Ret K h M fun _ v => v = .bool (sameW x y)) := by
  refine enter (l := [(.agg #[(.int .i64 ((x).rule)), (.int .i64 ((x).alt)), (.slice ((x).a) ((x).facts.length) ((x).c))]), (.pointer (some ⟨b, 0, none⟩))]) Try.func33 rfl Try.ntmps33 (Nat.le_of_ble_eq_true rfl) ?_
  simp only [params]
  refine CW.seq ?_
  refine CW.region ?_
  refine WL.ex (by kernel_rfl) rfl (by kernel_rfl) (q_newF (ob := (.cells #[(.int .i64 ((x).rule)), (.int .i64 ((x).alt)), (.slice ((x).a) ((x).facts.length) ((x).c))] 28 (0, 0))) G (fun b_ => .pointer (some ⟨b_, 0, none⟩)) (fun u_ => by kernel_rfl)) ?_
  rintro _ w22 ⟨b22, h22, rfl, l22, G22, hb22, L22⟩
  refine WL.q (.bool false) (by kernel_rfl) rfl (by kernel_rfl) (by kernel_rfl) ?_
  refine WL.nil ?_
  refine EX.then_code ?_
  refine CW.seq ?_
  refine CW.region ?_
  refine WL.q (.agg #[(.int .i64 ((x).rule)), (.int .i64 ((x).alt)), (.slice ((x).a) ((x).facts.length) ((x).c))]) (by kernel_rfl) rfl (by kernel_rfl) (q_loadAgg (off := 0) (vs := [(.int .i64 ((x).rule)), (.int .i64 ((x).alt)), (.slice ((x).a) ((x).facts.length) ((x).c))]) rfl (by kernel_rfl) (by kernel_rfl) (G22.imm _ _ ((PH.le_refl _) _ _ hb22)) (agg_at (by kernel_rfl))) ?_
  refine WL.q (.agg #[(.int .i64 ((y).rule)), (.int .i64 ((y).alt)), (.slice ((y).a) ((y).facts.length) ((y).c))]) (by kernel_rfl) rfl (by kernel_rfl) (q_loadAgg (off := 0) (vs := [(.int .i64 ((y).rule)), (.int .i64 ((y).alt)), (.slice ((y).a) ((y).facts.length) ((y).c))]) rfl (by kernel_rfl) (by kernel_rfl) (G22.imm _ _ (l22 _ _ hb)) (agg_at (by kernel_rfl))) ?_
  refine WL.call (by kernel_rfl) rfl (by kernel_rfl) (by kernel_rfl) (sameT_spec (x := x) (y := y) G22 (whyG.mono l22 _ gx) (whyG.mono l22 _ gy)) (Ret.elim ?_)
  rintro w23 h23 _ l23 G23 rfl
  refine WL.q (.bool (sameW x y)) (by kernel_rfl) rfl (by kernel_rfl) (by kernel_rfl) ?_
  refine WL.nil ?_
  refine EX.then_code ?_
  refine CW.ret ?_
  refine EX.ret1 (v := (.bool (sameW x y))) rfl (by kernel_rfl) ?_
  exact Ret.mk (l22.trans l23) G23 rfl

theorem is_spec {K : Key} {w : World} {h M : PH} (G : Wld K w h M) (y : WhyD) :
    Calls Try.prog 23 #[.agg (whyE.enc y).toArray] w (Ret K h M fun h' v => ∃ b, v = .func (.func 33) #[] #[.pointer (some ⟨b, 0, none⟩)] ∧ h' b = some (.cells (whyE.enc y).toArray 28 (0, 0))) := by
  refine enter (l := [(.agg #[(.int .i64 ((y).rule)), (.int .i64 ((y).alt)), (.slice ((y).a) ((y).facts.length) ((y).c))])]) Try.func23 rfl Try.ntmps23 (Nat.le_of_ble_eq_true rfl) ?_
  simp only [params]
  refine CW.seq ?_
  refine CW.region ?_
  refine WL.ex (by kernel_rfl) rfl (by kernel_rfl) (q_newF (ob := (.cells #[(.int .i64 ((y).rule)), (.int .i64 ((y).alt)), (.slice ((y).a) ((y).facts.length) ((y).c))] 28 (0, 0))) G (fun b_ => .pointer (some ⟨b_, 0, none⟩)) (fun u_ => by kernel_rfl)) ?_
  rintro _ w24 ⟨b24, h24, rfl, l24, G24, hb24, L24⟩
  refine WL.q .nilFunc (by kernel_rfl) rfl (by kernel_rfl) (by kernel_rfl) ?_
  refine WL.nil ?_
  refine EX.then_code ?_
  refine CW.seq ?_
  refine CW.region ?_
  refine WL.q (.func (.func 33) #[] #[(.pointer (some ⟨b24, 0, none⟩))]) (by kernel_rfl) rfl (by kernel_rfl) (by kernel_rfl) ?_
  refine WL.q (.func (.func 33) #[] #[(.pointer (some ⟨b24, 0, none⟩))]) (by kernel_rfl) rfl (by kernel_rfl) (by kernel_rfl) ?_
  refine WL.nil ?_
  refine EX.then_code ?_
  refine CW.ret ?_
  refine EX.ret1 (v := (.func (.func 33) #[] #[(.pointer (some ⟨b24, 0, none⟩))])) rfl (by kernel_rfl) ?_
  exact Ret.mk l24 G24 ⟨b24, rfl, ((PH.le_refl _) _ _ hb24)⟩

theorem idx_spec {K : Key} {w : World} {h M : PH} (G : Wld K w h M) {a : Option Addr} {xs : List WhyD} {c : Nat} (Hr : RS M whyO a xs) (hb : xs.length ≤ 1000000) (fid : FuncId) (caps : Array Value) (p : WhyD → Bool) (he : Enters Try.prog fid)
    (hf : ∀ x ∈ xs, ∀ w' h' M', PH.le h h' → PH.le M M' → Wld K w' h' M' → Calls Try.prog fid (#[.agg (whyE.enc x).toArray] ++ caps) w' (Ret K h' M' fun _ v => v = .bool (p x))) :
    Calls Try.prog 32 #[.slice a xs.length c, .func (.func fid) #[] caps] w (Ret K h M fun _ v => v = .int .i64 (idxF p xs)) := by
  refine enter (l := [(.slice a xs.length c), (.func (.func fid) #[] caps)]) Try.func32 rfl Try.ntmps32 (Nat.le_of_ble_eq_true rfl) ?_
  simp only [params]
  refine CW.seq ?_
  refine CW.region ?_
  refine WL.q (.int .i64 0) (by kernel_rfl) rfl (by kernel_rfl) (by kernel_rfl) ?_
  refine WL.nil ?_
  refine EX.then_code ?_
  refine CW.seq ?_
  refine CW.seq ?_
  refine CW.region ?_
  refine WL.q (.slice a xs.length c) (by kernel_rfl) rfl (by kernel_rfl) (by kernel_rfl) ?_
  refine WL.q (.int .i64 (xs.length : Int)) (by kernel_rfl) rfl (by kernel_rfl) (by kernel_rfl) ?_
  refine WL.q (.int .i64 0) (by kernel_rfl) rfl (by kernel_rfl) (by kernel_rfl) ?_
  refine WL.nil ?_
  refine EX.then_code ?_
  refine CW.block ?_
  refine CW.loop (β := Nat) (fun x_ => [(0, (.slice a xs.length c)), (1, (.func (.func fid) #[] caps)), (7, (.int .i64 (xs.length : Int))), (8, (.int .i64 (x_ : Int)))]) (fun x_ w_ => ∃ h_, (PH.le h h_) ∧ (Wld K w_ h_ M) ∧ (x_ ≤ xs.length) ∧ (∀ j < x_, p (xs.getD j whyO.dflt) = false)) (fun x_ => xs.length - x_) 0 ⟨(by kernel_rfl), (by kernel_rfl), (by kernel_rfl), (lk_int (x := 0) (by kernel_rfl) (by first | omega | (dsimp only; omega) | rfl | (dsimp only; rfl))), trivial⟩ ⟨h, (PH.le_refl _), G, (by first | omega | assumption | (dsimp only [List.length_nil, List.length_append, List.length_cons]; omega)), (by simp)⟩ ?_
  rintro k w25 ⟨h25, l25, G25, hk, hn⟩
  try dsimp only at *
  refine CW.seq ?_
  refine CW.region ?_
  refine WL.q (.bool (decide ((k : Int) < (xs.length : Int)))) (by kernel_rfl) rfl (by kernel_rfl) (by kernel_rfl) ?_
  refine WL.nil ?_
  refine EX.then_code ?_
  refine CW.seq ?_
  refine CW.cond (decide ((k : Int) < (xs.length : Int))) (by kernel_rfl) (by kernel_rfl) (fun c26 => ?_) (fun c26 => ?_)
  ·
    skip
    have d27 := of_decide_eq_true c26
    refine CW.skip ?_
    refine EX.then_code ?_
    refine CW.seq ?_
    refine CW.block ?_
    refine CW.seq ?_
    refine CW.region ?_
    refine WL.q (.int .i64 (k : Int)) (by kernel_rfl) rfl (by kernel_rfl) (by kernel_rfl) ?_
    refine WL.q (.int .i64 (k : Int)) (by kernel_rfl) rfl (by kernel_rfl) (by kernel_rfl) ?_
    refine WL.nil ?_
    refine EX.then_code ?_
    refine CW.seq ?_
    refine CW.region ?_
    refine WL.q (.func (.func fid) #[] caps) (by kernel_rfl) rfl (by kernel_rfl) (by kernel_rfl) ?_
    refine WL.q (.slice a xs.length c) (by kernel_rfl) rfl (by kernel_rfl) (by kernel_rfl) ?_
    refine WL.q (.int .i64 (k : Int)) (by kernel_rfl) rfl (by kernel_rfl) (by kernel_rfl) ?_
    refine WL.q (eptr a (k * whyO.sz)) (by kernel_rfl) rfl (by kernel_rfl) (q_indexAddr (i := k) (E := whyO) (xs := xs) (e := 28) (c := c) (k := .i64) (m := xs.length) rfl rfl (by kernel_rfl) (by kernel_rfl) (by kernel_rfl) (Hr.mono G25.own) (by omega)) ?_
    refine WL.q (.agg #[(.int .i64 (((xs.getD k whyO.dflt)).rule)), (.int .i64 (((xs.getD k whyO.dflt)).alt)), (.slice (((xs.getD k whyO.dflt)).a) (((xs.getD k whyO.dflt)).facts.length) (((xs.getD k whyO.dflt)).c))]) (by kernel_rfl) rfl (by kernel_rfl) (q_val (q_loadAgg_e (i := k) (E := whyO) rfl (by kernel_rfl) (by kernel_rfl) (Hr.mono G25.own) (by omega)) (by kernel_rfl)) ?_
    refine WL.callv (f := fid) (caps := caps) (args := #[.agg (whyE.enc ((xs.getD k whyO.dflt))).toArray]) he rfl (by kernel_rfl) (by kernel_rfl) (by kernel_rfl) rfl (by kernel_rfl) (hf ((xs.getD k whyO.dflt)) (getD_mem (by omega)) w25 h25 M l25 (PH.le_refl _) G25) (Ret.elim ?_)
    rintro w28 h28 _ l28 G28 rfl
    refine WL.nil ?_
    refine EX.then_code ?_
    refine CW.cond (p ((xs.getD k whyO.dflt))) (by kernel_rfl) (by kernel_rfl) (fun c29 => ?_) (fun c29 => ?_)
    ·
      skip
      refine CW.seq ?_
      refine CW.region ?_
      refine WL.q (.int .i64 (k : Int)) (by kernel_rfl) rfl (by kernel_rfl) (by kernel_rfl) ?_
      refine WL.q (.int .i64 (k : Int)) (by kernel_rfl) rfl (by kernel_rfl) (by kernel_rfl) ?_
      refine WL.nil ?_
      refine EX.then_code ?_
      refine CW.ret ?_
      refine EX.ret_block ?_
      refine EX.ret_then ?_
      refine EX.ret_then ?_
      refine EX.ret_block ?_
      refine EX.ret_then ?_
      refine EX.ret1 (v := (.int .i64 (k : Int))) rfl (by kernel_rfl) ?_
      exact Ret.mk (l25.trans l28) G28 (congrArg (Value.int .i64) ((idxF_some (d := whyO.dflt) (by omega) hn (by assumption)).symm))
    ·
      skip
      refine CW.skip ?_
      refine EX.in_block ?_
      refine EX.then_code ?_
      refine CW.region ?_
      refine WL.q (.int .i64 ((k + 1 : Nat) : Int)) (by kernel_rfl) rfl (by kernel_rfl) (q_int (x := IntKind.i64.wrap ((k : Int) + 1)) (by kernel_rfl) (wrap_to (by omega) (by omega) (by omega))) ?_
      refine WL.q (.int .i64 ((k + 1 : Nat) : Int)) (by kernel_rfl) rfl (by kernel_rfl) (by kernel_rfl) ?_
      refine WL.nil ?_
      exact EX.then_loop (k + 1) ⟨(by kernel_rfl), (by kernel_rfl), (by kernel_rfl), (lk_int (x := ((k + 1 : Nat) : Int)) (by kernel_rfl) (by first | omega | (dsimp only; omega) | rfl | (dsimp only; rfl))), trivial⟩ ⟨h28, (l25.trans l28), G28, (by first | omega | assumption | (dsimp only [List.length_nil, List.length_append, List.length_cons]; omega)), (fun j hj => by rcases Nat.lt_or_ge j k with q | q; (exact hn j q); (obtain rfl : j = k := by omega); assumption)⟩ (by first | omega | (dsimp only; omega))
  ·
    skip
    have d32 := of_decide_eq_false c26
    refine CW.exit ?_
    refine EX.exit_then ?_
    refine EX.exit_then ?_
    refine EX.exit_here ?_
    refine EX.then_code ?_
    refine CW.seq ?_
    refine CW.region ?_
    refine WL.q (.int .i64 (-1)) (by kernel_rfl) rfl (by kernel_rfl) (by kernel_rfl) ?_
    refine WL.nil ?_
    refine EX.then_code ?_
    refine CW.ret ?_
    refine EX.ret1 (v := (.int .i64 (-1))) rfl (by kernel_rfl) ?_
    exact Ret.mk l25 G25 (congrArg (Value.int .i64) ((idxF_none (d := whyO.dflt) (fun j hj => hn j (by omega))).symm))

theorem has_spec {K : Key} {w : World} {h M : PH} (G : Wld K w h M) {a : Option Addr} {xs : List WhyD} {c : Nat} (Hr : RS M whyO a xs) (hb : xs.length ≤ 1000000) (fid : FuncId) (caps : Array Value) (p : WhyD → Bool) (he : Enters Try.prog fid)
    (hf : ∀ x ∈ xs, ∀ w' h' M', PH.le h h' → PH.le M M' → Wld K w' h' M' → Calls Try.prog fid (#[.agg (whyE.enc x).toArray] ++ caps) w' (Ret K h' M' fun _ v => v = .bool (p x))) :
    Calls Try.prog 22 #[.slice a xs.length c, .func (.func fid) #[] caps] w (Ret K h M fun _ v => v = .bool (xs.any p)) := by
  refine enter (l := [(.slice a xs.length c), (.func (.func fid) #[] caps)]) Try.func22 rfl Try.ntmps22 (Nat.le_of_ble_eq_true rfl) ?_
  simp only [params]
  refine CW.seq ?_
  refine CW.region ?_
  refine WL.q (.bool false) (by kernel_rfl) rfl (by kernel_rfl) (by kernel_rfl) ?_
  refine WL.nil ?_
  refine EX.then_code ?_
  refine CW.seq ?_
  refine CW.region ?_
  refine WL.q (.slice a xs.length c) (by kernel_rfl) rfl (by kernel_rfl) (by kernel_rfl) ?_
  refine WL.q (.func (.func fid) #[] caps) (by kernel_rfl) rfl (by kernel_rfl) (by kernel_rfl) ?_
  refine WL.call (by kernel_rfl) rfl (by kernel_rfl) (by kernel_rfl) (idx_spec (c := c) G Hr hb fid caps p he hf) (Ret.elim ?_)
  rintro w33 h33 _ l33 G33 rfl
  refine WL.q (.bool (decide ((idxF p xs) ≥ 0))) (by kernel_rfl) rfl (by kernel_rfl) (by kernel_rfl) ?_
  refine WL.q (.bool (decide ((idxF p xs) ≥ 0))) (by kernel_rfl) rfl (by kernel_rfl) (by kernel_rfl) ?_
  refine WL.nil ?_
  refine EX.then_code ?_
  refine CW.ret ?_
  refine EX.ret1 (v := (.bool (decide ((idxF p xs) ≥ 0)))) rfl (by kernel_rfl) ?_
  exact Ret.mk l33 G33 (congrArg Value.bool (idxF_any p xs).symm)

theorem del_spec {K : Key} {w : World} {h M : PH} (G : Wld K w h M) {M0 : PH} {a : Option Addr} {xs : List WhyD} {c : Nat} (own : Own 28 whyO M0 M a c xs) (hb : xs.length ≤ 1000000) (fid : FuncId) (caps : Array Value) (p : WhyD → Bool) (he : Enters Try.prog fid)
    (hf : ∀ x ∈ xs, ∀ w' h' M', PH.le h h' → PH.le M0 M' → Wld K w' h' M' → Calls Try.prog fid (#[.agg (whyE.enc x).toArray] ++ caps) w' (Ret K h' M' fun _ v => v = .bool (p x))) :
    Calls Try.prog 30 #[.slice a xs.length c, .func (.func fid) #[] caps] w (RetM K h fun h' M' v => v = .slice a (xs.filter fun x => !p x).length c ∧ Own 28 whyO M0 M' a c (xs.filter fun x => !p x)) := by
  refine enter (l := [(.slice a xs.length c), (.func (.func fid) #[] caps)]) Try.func30 rfl Try.ntmps30 (Nat.le_of_ble_eq_true rfl) ?_
  simp only [params]
  refine CW.seq ?_
  refine CW.region ?_
  refine WL.q (.slice none 0 0) (by kernel_rfl) rfl (by kernel_rfl) (by kernel_rfl) ?_
  refine WL.nil ?_
  refine EX.then_code ?_
  refine CW.seq ?_
  refine CW.region ?_
  refine WL.q (.slice a xs.length c) (by kernel_rfl) rfl (by kernel_rfl) (by kernel_rfl) ?_
  refine WL.q (.func (.func fid) #[] caps) (by kernel_rfl) rfl (by kernel_rfl) (by kernel_rfl) ?_
  refine WL.call (by kernel_rfl) rfl (by kernel_rfl) (by kernel_rfl) (idx_spec (c := c) G own.reads hb fid caps p he (fun x hx w' h' M' hl hm g' => hf x hx w' h' M' hl (own.le.trans hm) g')) (Ret.elim ?_)
  rintro w34 h34 _ l34 G34 rfl
  have hbd_ := idxF_bd p xs
  refine WL.q (.int .i64 (idxF p xs)) (by kernel_rfl) rfl (by kernel_rfl) (by kernel_rfl) ?_
  refine WL.nil ?_
  refine EX.then_code ?_
  refine CW.seq ?_
  refine CW.seq ?_
  refine CW.region ?_
  refine WL.q (.int .i64 (idxF p xs)) (by kernel_rfl) rfl (by kernel_rfl) (by kernel_rfl) ?_
  refine WL.q (.bool (((idxF p xs) : Int) == (-1))) (by kernel_rfl) rfl (by kernel_rfl) (by kernel_rfl) ?_
  refine WL.nil ?_
  refine EX.then_code ?_
  refine CW.cond (((idxF p xs) : Int) == (-1)) (by kernel_rfl) (by kernel_rfl) (fun c35 => ?_) (fun c35 => ?_)
  ·
    skip
    have d36 := eq_of_beq c35
    refine CW.seq ?_
    refine CW.region ?_
    refine WL.q (.slice a xs.length c) (by kernel_rfl) rfl (by kernel_rfl) (by kernel_rfl) ?_
    refine WL.q (.slice a xs.length c) (by kernel_rfl) rfl (by kernel_rfl) (by kernel_rfl) ?_
    refine WL.nil ?_
    refine EX.then_code ?_
    refine CW.ret ?_
    refine EX.ret_then ?_
    refine EX.ret1 (v := (.slice a xs.length c)) rfl (by kernel_rfl) ?_
    rcases idxF_cases p xs whyO.dflt with ⟨q_, hall⟩ | ⟨k0, hk0, ek0, _⟩
    · exact RetM.mk l34 G34 ⟨by rw [filter_none hall], by rw [filter_none hall]; exact own⟩
    · exact absurd (ek0.symm.trans (by assumption)) (by omega)
  ·
    skip
    have d37 := ne_of_beq_false c35
    refine CW.skip ?_
    refine EX.then_code ?_
    refine CW.seq ?_
    refine CW.seq ?_
    refine CW.region ?_
    refine WL.q (.int .i64 (idxF p xs)) (by kernel_rfl) rfl (by kernel_rfl) (by kernel_rfl) ?_
    refine WL.q (.int .i64 ((idxF p xs) + 1)) (by kernel_rfl) rfl (by kernel_rfl) (q_int (x := IntKind.i64.wrap ((idxF p xs) + 1)) (by kernel_rfl) (wrap_to (by omega) (by omega) (by omega))) ?_
    refine WL.q (.int .i64 ((idxF p xs) + 1)) (by kernel_rfl) rfl (by kernel_rfl) (by kernel_rfl) ?_
    refine WL.nil ?_
    refine EX.then_code ?_
    refine CW.block ?_
    have q_ : ∃ k, k < xs.length ∧ idxF p xs = (k : Int) ∧ p (xs.getD k whyO.dflt) = true ∧ ∀ j < k, p (xs.getD j whyO.dflt) = false := by
      rcases idxF_cases p xs whyO.dflt with ⟨q_, _⟩ | q_
      · exact absurd q_ (by assumption)
      · exact q_
    obtain ⟨k0, hk0, ek0, pk0, nk0⟩ := q_
    have st0 := DelAt.start hk0 pk0 nk0
    refine CW.loop (β := Nat × Nat × List WhyD) (fun x_ => [(0, (.slice a xs.length c)), (1, (.func (.func fid) #[] caps)), (4, (.slice none 0 0)), (5, (.int .i64 (x_.1 : Int))), (6, (.int .i64 (x_.2.1 : Int)))]) (fun x_ w_ => ∃ h_ M0_, (PH.le h34 h_) ∧ (Wld K w_ h_ M0_) ∧ (Own 28 whyO M0 M0_ a c x_.2.2) ∧ (DelAt p xs x_.1 x_.2.1 x_.2.2)) (fun x_ => xs.length - x_.2.1) ⟨k0, k0 + 1, xs⟩ ⟨(by kernel_rfl), (by kernel_rfl), (by kernel_rfl), (lk_int (x := (idxF p xs)) (by kernel_rfl) (by first | omega | (dsimp only; omega) | rfl | (dsimp only; rfl))), (lk_int (x := (idxF p xs) + 1) (by kernel_rfl) (by first | omega | (dsimp only; omega) | rfl | (dsimp only; rfl))), trivial⟩ ⟨h34, M, (PH.le_refl _), G34, own, st0⟩ ?_
    rintro ⟨i, j, ys⟩ w38 ⟨h38, M0_38, l38, G38, o_xs38, hd⟩
    try dsimp only at *
    have hdl := hd.len
    have hdj := hd.le
    have hdi := hd.lt
    refine CW.seq ?_
    refine CW.seq ?_
    refine CW.region ?_
    refine WL.q (.int .i64 (j : Int)) (by kernel_rfl) rfl (by kernel_rfl) (by kernel_rfl) ?_
    refine WL.q (.slice a xs.length c) (by kernel_rfl) rfl (by kernel_rfl) (by kernel_rfl) ?_
    refine WL.q (.int .i64 (xs.length : Int)) (by kernel_rfl) rfl (by kernel_rfl) (by kernel_rfl) ?_
    refine WL.q (.bool (decide ((j : Int) < (xs.length : Int)))) (by kernel_rfl) rfl (by kernel_rfl) (by kernel_rfl) ?_
    refine WL.nil ?_
    refine EX.then_code ?_
    refine CW.cond (decide ((j : Int) < (xs.length : Int))) (by kernel_rfl) (by kernel_rfl) (fun c39 => ?_) (fun c39 => ?_)
    ·
      skip
      have d40 := of_decide_eq_true c39
      refine CW.skip ?_
      refine EX.then_code ?_
      refine CW.seq ?_
      refine CW.block ?_
      refine CW.seq ?_
      refine CW.region ?_
      refine WL.q (.slice a xs.length c) (by kernel_rfl) rfl (by kernel_rfl) (by kernel_rfl) ?_
      refine WL.q (.int .i64 (j : Int)) (by kernel_rfl) rfl (by kernel_rfl) (by kernel_rfl) ?_
      refine WL.q (eptr a (j * whyO.sz)) (by kernel_rfl) rfl (by kernel_rfl) (q_indexAddr (i := j) (E := whyO) (xs := ys) (e := 28) (c := c) (k := .i64) (m := xs.length) (by omega) rfl (by kernel_rfl) (by kernel_rfl) (by kernel_rfl) (o_xs38.reads.mono ((PH.le_refl _).trans G38.own)) (by omega)) ?_
      refine WL.q (.agg #[(.int .i64 (((ys.getD j whyO.dflt)).rule)), (.int .i64 (((ys.getD j whyO.dflt)).alt)), (.slice (((ys.getD j whyO.dflt)).a) (((ys.getD j whyO.dflt)).facts.length) (((ys.getD j whyO.dflt)).c))]) (by kernel_rfl) rfl (by kernel_rfl) (q_val (q_loadAgg_e (i := j) (E := whyO) rfl (by kernel_rfl) (by kernel_rfl) (o_xs38.reads.mono ((PH.le_refl _).trans G38.own)) (by omega)) (by kernel_rfl)) ?_
      refine WL.ex (by kernel_rfl) rfl (by kernel_rfl) (q_newB (ob := (.cells #[(.int .i64 0), (.int .i64 0), (.slice none 0 0)] 28 (0, 0))) G38 (fun b_ => .pointer (some ⟨b_, 0, none⟩)) (fun u_ => by kernel_rfl)) ?_
      rintro _ w41 ⟨b41, M41, rfl, G41, B41, L41⟩
      refine WL.exu (by kernel_rfl) rfl (by kernel_rfl) (q_storeB (off := 0) (et := 28) (v := (.agg #[(.int .i64 (((ys.getD j whyO.dflt)).rule)), (.int .i64 (((ys.getD j whyO.dflt)).alt)), (.slice (((ys.getD j whyO.dflt)).a) (((ys.getD j whyO.dflt)).facts.length) (((ys.getD j whyO.dflt)).c))])) (vs := [(.int .i64 (((ys.getD j whyO.dflt)).rule)), (.int .i64 (((ys.getD j whyO.dflt)).alt)), (.slice (((ys.getD j whyO.dflt)).a) (((ys.getD j whyO.dflt)).facts.length) (((ys.getD j whyO.dflt)).c))]) #[(.int .i64 (((ys.getD j whyO.dflt)).rule)), (.int .i64 (((ys.getD j whyO.dflt)).alt)), (.slice (((ys.getD j whyO.dflt)).a) (((ys.getD j whyO.dflt)).facts.length) (((ys.getD j whyO.dflt)).c))] G41 B41 rfl (by kernel_rfl) (by kernel_rfl) (by kernel_rfl) (by kernel_rfl) (by simp [Value.oneCell']) (by simp) (by kernel_rfl)) ?_
      rintro w42 ⟨M42, G42, B42⟩
      obtain ⟨h43, l43, G43, hb43⟩ := B42.freeze G42
      refine WL.nil ?_
      refine EX.then_code ?_
      refine CW.seq ?_
      refine CW.region ?_
      refine WL.q (.func (.func fid) #[] caps) (by kernel_rfl) rfl (by kernel_rfl) (by kernel_rfl) ?_
      refine WL.q (.agg #[(.int .i64 (((ys.getD j whyO.dflt)).rule)), (.int .i64 (((ys.getD j whyO.dflt)).alt)), (.slice (((ys.getD j whyO.dflt)).a) (((ys.getD j whyO.dflt)).facts.length) (((ys.getD j whyO.dflt)).c))]) (by kernel_rfl) rfl (by kernel_rfl) (q_loadAgg (off := 0) (vs := [(.int .i64 (((ys.getD j whyO.dflt)).rule)), (.int .i64 (((ys.getD j whyO.dflt)).alt)), (.slice (((ys.getD j whyO.dflt)).a) (((ys.getD j whyO.dflt)).facts.length) (((ys.getD j whyO.dflt)).c))]) rfl (by kernel_rfl) (by kernel_rfl) (G43.imm _ _ ((PH.le_refl _) _ _ hb43)) (agg_at (by kernel_rfl))) ?_
      refine WL.callv (f := fid) (caps := caps) (args := #[.agg (whyE.enc ((ys.getD j whyO.dflt))).toArray]) he rfl (by kernel_rfl) (by kernel_rfl) (by kernel_rfl) rfl (by kernel_rfl) (hf ((ys.getD j whyO.dflt)) (by rw [hd.get (by omega)]; exact getD_mem (by omega)) w42 h43 M0_38 ((l34.trans l38).trans l43) o_xs38.le G43) (Ret.elim ?_)
      rintro w44 h44 _ l44 G44 rfl
      refine WL.q (.bool (!(p ((ys.getD j whyO.dflt))))) (by kernel_rfl) rfl (by kernel_rfl) (by kernel_rfl) ?_
      refine WL.nil ?_
      refine EX.then_code ?_
      refine CW.cond (!(p ((ys.getD j whyO.dflt)))) (by kernel_rfl) (by kernel_rfl) (fun c45 => ?_) (fun c45 => ?_)
      ·
        skip
        have d46 := not_true c45
        refine CW.seq ?_
        refine CW.region ?_
        refine WL.q (.slice a xs.length c) (by kernel_rfl) rfl (by kernel_rfl) (by kernel_rfl) ?_
        refine WL.q (.int .i64 (i : Int)) (by kernel_rfl) rfl (by kernel_rfl) (by kernel_rfl) ?_
        refine WL.q (.agg #[(.int .i64 (((ys.getD j whyO.dflt)).rule)), (.int .i64 (((ys.getD j whyO.dflt)).alt)), (.slice (((ys.getD j whyO.dflt)).a) (((ys.getD j whyO.dflt)).facts.length) (((ys.getD j whyO.dflt)).c))]) (by kernel_rfl) rfl (by kernel_rfl) (q_loadAgg (off := 0) (vs := [(.int .i64 (((ys.getD j whyO.dflt)).rule)), (.int .i64 (((ys.getD j whyO.dflt)).alt)), (.slice (((ys.getD j whyO.dflt)).a) (((ys.getD j whyO.dflt)).facts.length) (((ys.getD j whyO.dflt)).c))]) rfl (by kernel_rfl) (by kernel_rfl) (G44.imm _ _ (l44 _ _ hb43)) (agg_at (by kernel_rfl))) ?_
        refine WL.q (eptr a (i * whyO.sz)) (by kernel_rfl) rfl (by kernel_rfl) (q_indexAddr (i := i) (E := whyO) (xs := ys) (e := 28) (c := c) (k := .i64) (m := xs.length) (by omega) rfl (by kernel_rfl) (by kernel_rfl) (by kernel_rfl) (o_xs38.reads.mono ((PH.le_refl _).trans G44.own)) (by omega)) ?_
        refine WL.exu (by kernel_rfl) rfl (by kernel_rfl) (q_storeO (v := (.agg #[(.int .i64 (((ys.getD j whyO.dflt)).rule)), (.int .i64 (((ys.getD j whyO.dflt)).alt)), (.slice (((ys.getD j whyO.dflt)).a) (((ys.getD j whyO.dflt)).facts.length) (((ys.getD j whyO.dflt)).c))])) (xs := ys) (i := i) ((ys.getD j whyO.dflt)) G44 o_xs38 (by omega) rfl (by kernel_rfl) (by kernel_rfl) (by kernel_rfl) (by kernel_rfl)) ?_
        rintro w48 ⟨M48, G48, o48⟩
        refine WL.nil ?_
        refine EX.then_code ?_
        refine CW.region ?_
        refine WL.q (.int .i64 (i : Int)) (by kernel_rfl) rfl (by kernel_rfl) (by kernel_rfl) ?_
        refine WL.q (.int .i64 ((i + 1 : Nat) : Int)) (by kernel_rfl) rfl (by kernel_rfl) (q_int (x := IntKind.i64.wrap ((i : Int) + 1)) (by kernel_rfl) (wrap_to (by omega) (by omega) (by omega))) ?_
        refine WL.q (.int .i64 ((i + 1 : Nat) : Int)) (by kernel_rfl) rfl (by kernel_rfl) (by kernel_rfl) ?_
        refine WL.nil ?_
        refine EX.in_block ?_
        refine EX.then_code ?_
        refine CW.region ?_
        refine WL.q (.int .i64 (j : Int)) (by kernel_rfl) rfl (by kernel_rfl) (by kernel_rfl) ?_
        refine WL.q (.int .i64 ((j + 1 : Nat) : Int)) (by kernel_rfl) rfl (by kernel_rfl) (q_int (x := IntKind.i64.wrap ((j : Int) + 1)) (by kernel_rfl) (wrap_to (by omega) (by omega) (by omega))) ?_
        refine WL.q (.int .i64 ((j + 1 : Nat) : Int)) (by kernel_rfl) rfl (by kernel_rfl) (by kernel_rfl) ?_
        refine WL.nil ?_
        have hd2 := hd.keep (d := whyO.dflt) (by omega) (not_true c45)
        exact EX.then_loop ⟨(i + 1), j + 1, (ys.set i ((ys.getD j whyO.dflt)))⟩ ⟨(by kernel_rfl), (by kernel_rfl), (by kernel_rfl), (lk_int (x := ((i + 1 : Nat) : Int)) (by kernel_rfl) (by first | omega | (dsimp only; omega) | rfl | (dsimp only; rfl))), (lk_int (x := ((j + 1 : Nat) : Int)) (by kernel_rfl) (by first | omega | (dsimp only; omega) | rfl | (dsimp only; rfl))), trivial⟩ ⟨h44, M48, ((l38.trans l43).trans l44), G48, o48, hd2⟩ (by first | omega | (dsimp only; omega))
      ·
        skip
        have d49 := not_false c45
        refine CW.skip ?_
        refine EX.in_block ?_
        refine EX.then_code ?_
        refine CW.region ?_
        refine WL.q (.int .i64 (j : Int)) (by kernel_rfl) rfl (by kernel_rfl) (by kernel_rfl) ?_
        refine WL.q (.int .i64 ((j + 1 : Nat) : Int)) (by kernel_rfl) rfl (by kernel_rfl) (q_int (x := IntKind.i64.wrap ((j : Int) + 1)) (by kernel_rfl) (wrap_to (by omega) (by omega) (by omega))) ?_
        refine WL.q (.int .i64 ((j + 1 : Nat) : Int)) (by kernel_rfl) rfl (by kernel_rfl) (by kernel_rfl) ?_
        refine WL.nil ?_
        have hd2 := hd.drop (d := whyO.dflt) (by omega) (not_false c45)
        exact EX.then_loop ⟨i, j + 1, ys⟩ ⟨(by kernel_rfl), (by kernel_rfl), (by kernel_rfl), (by kernel_rfl), (lk_int (x := ((j + 1 : Nat) : Int)) (by kernel_rfl) (by first | omega | (dsimp only; omega) | rfl | (dsimp only; rfl))), trivial⟩ ⟨h44, M0_38, ((l38.trans l43).trans l44), G44, o_xs38, hd2⟩ (by first | omega | (dsimp only; omega))
    ·
      skip
      have d51 := of_decide_eq_false c39
      refine CW.exit ?_
      refine EX.exit_then ?_
      refine EX.exit_then ?_
      refine EX.exit_here ?_
      refine EX.then_code ?_
      refine CW.seq ?_
      refine CW.region ?_
      refine WL.q (.slice a xs.length c) (by kernel_rfl) rfl (by kernel_rfl) (by kernel_rfl) ?_
      refine WL.q (.int .i64 (i : Int)) (by kernel_rfl) rfl (by kernel_rfl) (by kernel_rfl) ?_
      refine WL.q (.slice (aft a c i 3) (xs.length - i) (c - i)) (by kernel_rfl) rfl (by kernel_rfl) (q_from (e := 28) (sz := 3) (len := xs.length) (cap := c) (lo := i) (k := .i64) rfl (by kernel_rfl) (by kernel_rfl) (by kernel_rfl) (by omega)) ?_
      refine WL.clearTail (xs := ys) (i := i) (cap := c) (e := 28) (z := (.agg #[(.int .i64 0), (.int .i64 0), (.slice none 0 0)])) G38 o_xs38 (by first | omega | (simp; omega)) rfl (by kernel_rfl) (by kernel_rfl) (by kernel_rfl) (by simp [Value.oneCell', Value.cells]) (by kernel_rfl) rfl (by kernel_rfl) ((show _ = Value.slice (aft a c i 3) (xs.length - i) (c - i) by kernel_rfl).trans (by rw [show ys.length = xs.length by first | omega | simp | (simp; omega)]; rfl)) ?_
      intro w52 M52 G52 o52
      refine WL.nil ?_
      refine EX.then_code ?_
      refine CW.seq ?_
      refine CW.region ?_
      refine WL.q (.slice a xs.length c) (by kernel_rfl) rfl (by kernel_rfl) (by kernel_rfl) ?_
      refine WL.q (.int .i64 (i : Int)) (by kernel_rfl) rfl (by kernel_rfl) (by kernel_rfl) ?_
      refine WL.q (.slice a i c) (by kernel_rfl) rfl (by kernel_rfl) (q_upto (e := 28) (sz := 3) (len := xs.length) (cap := c) (k := .i64) rfl (by kernel_rfl) (by kernel_rfl) (by kernel_rfl) (by have q_ := o52.cap_le; first | omega | (simp only [List.length_take, List.length_append, List.length_drop] at q_; omega))) ?_
      refine WL.q (.slice a i c) (by kernel_rfl) rfl (by kernel_rfl) (by kernel_rfl) ?_
      refine WL.nil ?_
      refine EX.then_code ?_
      refine CW.ret ?_
      refine EX.ret1 (v := (.slice a i c)) rfl (by kernel_rfl) ?_
      have hfin := hd.done (by omega)
      have hlen : (xs.filter fun x => !p x).length = i := by rw [← hfin, List.length_take]; omega
      exact RetM.mk (l34.trans l38) G52 ⟨by rw [hlen], hfin ▸ o52⟩

theorem apart_spec {K : Key} {w : World} {h M : PH} (G : Wld K w h M) {f : WhyD} (gf : whyG h f) :
    Calls Try.prog 24 #[.agg (whyE.enc f).toArray] w (Ret K h M fun h' v => ∃ a c, v = .agg (whyE.enc (WhyD.mk f.rule f.alt a f.facts c)).toArray ∧ whyG h' (WhyD.mk f.rule f.alt a f.facts c)) := by
  refine enter (l := [(.agg #[(.int .i64 ((f).rule)), (.int .i64 ((f).alt)), (.slice ((f).a) ((f).facts.length) ((f).c))])]) Try.func24 rfl Try.ntmps24 (Nat.le_of_ble_eq_true rfl) ?_
  simp only [params]
  refine CW.seq ?_
  refine CW.region ?_
  refine WL.ex (by kernel_rfl) rfl (by kernel_rfl) (q_newB (ob := (.cells #[(.int .i64 ((f).rule)), (.int .i64 ((f).alt)), (.slice ((f).a) ((f).facts.length) ((f).c))] 28 (0, 0))) G (fun b_ => .pointer (some ⟨b_, 0, none⟩)) (fun u_ => by kernel_rfl)) ?_
  rintro _ w53 ⟨b53, M53, rfl, G53, B53, L53⟩
  refine WL.ex (by kernel_rfl) rfl (by kernel_rfl) (q_newB (ob := (.cells #[(.int .i64 0), (.int .i64 0), (.slice none 0 0)] 28 (0, 0))) G53 (fun b_ => .pointer (some ⟨b_, 0, none⟩)) (fun u_ => by kernel_rfl)) ?_
  rintro _ w54 ⟨b54, M54, rfl, G54, B54, L54⟩
  refine WL.nil ?_
  refine EX.then_code ?_
  refine CW.seq ?_
  refine CW.region ?_
  refine WL.q (.pointer (some ⟨b53, 2, none⟩)) (by kernel_rfl) rfl (by kernel_rfl) (by kernel_rfl) ?_
  refine WL.q (.slice ((f).a) ((f).facts.length) ((f).c)) (by kernel_rfl) rfl (by kernel_rfl) (q_load (off := 2) rfl (by kernel_rfl) (by kernel_rfl) (G54.own _ _ (B54.le _ _ B53.at)) (by kernel_rfl)) ?_
  refine WL.call (by kernel_rfl) rfl (by kernel_rfl) (by kernel_rfl) (cloneI_spec (xs := ((f).facts)) (c := ((f).c)) G54 (gf.1.mono ((PH.le_refl _).trans G54.imm)) (by have := gf.2; omega)) (RetM.elim ?_)
  rintro w56 h56 M56 _ l56 G56 ⟨a56, k56, rfl, o56, z56⟩
  refine WL.call (by kernel_rfl) rfl (by kernel_rfl) (by kernel_rfl) (clipI_spec (a := a56) (m := (((f).facts).length)) (c := k56) G56 (by have q_ := o56.cap_le; first | omega | (simp only [List.length_take, List.length_append, List.length_drop] at q_; omega))) (Ret.elim ?_)
  rintro w57 h57 _ l57 G57 rfl
  refine WL.q (.pointer (some ⟨b53, 2, none⟩)) (by kernel_rfl) rfl (by kernel_rfl) (by kernel_rfl) ?_
  obtain ⟨N58, s59, s60⟩ : ∃ N_, Blk b54 (.cells #[(.int .i64 0), (.int .i64 0), (.slice none 0 0)] 28 (0, 0)) M N_ ∧ Blk b53 (.cells #[(.int .i64 ((f).rule)), (.int .i64 ((f).alt)), (.slice ((f).a) ((f).facts.length) ((f).c))] 28 (0, 0)) N_ M54 := Ly.swap (Ly.blk b53 (.cells #[(.int .i64 ((f).rule)), (.int .i64 ((f).alt)), (.slice ((f).a) ((f).facts.length) ((f).c))] 28 (0, 0))) (Ly.blk b54 (.cells #[(.int .i64 0), (.int .i64 0), (.slice none 0 0)] 28 (0, 0))) B53 B54
  obtain ⟨N61, s62, s63⟩ : ∃ N_, Own 3 intE N58 N_ a56 k56 ((f).facts) ∧ Blk b53 (.cells #[(.int .i64 ((f).rule)), (.int .i64 ((f).alt)), (.slice ((f).a) ((f).facts.length) ((f).c))] 28 (0, 0)) N_ M56 := Ly.swap (Ly.blk b53 (.cells #[(.int .i64 ((f).rule)), (.int .i64 ((f).alt)), (.slice ((f).a) ((f).facts.length) ((f).c))] 28 (0, 0))) (Ly.own (E := intE) 3 a56 k56 ((f).facts)) s60 o56
  refine WL.exu (by kernel_rfl) rfl (by kernel_rfl) (q_storeB (off := 2) (et := 28) (v := (.slice a56 (((f).facts).length) (((f).facts).length))) (vs := [(.slice a56 (((f).facts).length) (((f).facts).length))]) #[(.int .i64 ((f).rule)), (.int .i64 ((f).alt)), (.slice a56 (((f).facts).length) (((f).facts).length))] G57 s63 rfl (by kernel_rfl) (by kernel_rfl) (by kernel_rfl) (by kernel_rfl) (by simp [Value.oneCell']) (by simp) (by kernel_rfl)) ?_
  rintro w64 ⟨M64, G64, B64⟩
  refine WL.nil ?_
  refine EX.then_code ?_
  refine CW.seq ?_
  refine CW.region ?_
  refine WL.q (.agg #[(.int .i64 ((f).rule)), (.int .i64 ((f).alt)), (.slice a56 (((f).facts).length) (((f).facts).length))]) (by kernel_rfl) rfl (by kernel_rfl) (q_loadAgg (off := 0) (vs := [(.int .i64 ((f).rule)), (.int .i64 ((f).alt)), (.slice a56 (((f).facts).length) (((f).facts).length))]) rfl (by kernel_rfl) (by kernel_rfl) (G64.own _ _ B64.at) (agg_at (by kernel_rfl))) ?_
  obtain ⟨N65, s66, s67⟩ : ∃ N_, Own 3 intE M N_ a56 k56 ((f).facts) ∧ Blk b54 (.cells #[(.int .i64 0), (.int .i64 0), (.slice none 0 0)] 28 (0, 0)) N_ N61 := Ly.swap (Ly.blk b54 (.cells #[(.int .i64 0), (.int .i64 0), (.slice none 0 0)] 28 (0, 0))) (Ly.own (E := intE) 3 a56 k56 ((f).facts)) s59 s62
  obtain ⟨N68, s69, s70⟩ : ∃ N_, Blk b53 (.cells #[(.int .i64 ((f).rule)), (.int .i64 ((f).alt)), (.slice a56 (((f).facts).length) (((f).facts).length))] 28 (0, 0)) N65 N_ ∧ Blk b54 (.cells #[(.int .i64 0), (.int .i64 0), (.slice none 0 0)] 28 (0, 0)) N_ M64 := Ly.swap (Ly.blk b54 (.cells #[(.int .i64 0), (.int .i64 0), (.slice none 0 0)] 28 (0, 0))) (Ly.blk b53 (.cells #[(.int .i64 ((f).rule)), (.int .i64 ((f).alt)), (.slice a56 (((f).facts).length) (((f).facts).length))] 28 (0, 0))) s67 B64
  refine WL.exu (by kernel_rfl) rfl (by kernel_rfl) (q_storeB (off := 0) (et := 28) (v := (.agg #[(.int .i64 ((f).rule)), (.int .i64 ((f).alt)), (.slice a56 (((f).facts).length) (((f).facts).length))])) (vs := [(.int .i64 ((f).rule)), (.int .i64 ((f).alt)), (.slice a56 (((f).facts).length) (((f).facts).length))]) #[(.int .i64 ((f).rule)), (.int .i64 ((f).alt)), (.slice a56 (((f).facts).length) (((f).facts).length))] G64 s70 rfl (by kernel_rfl) (by kernel_rfl) (by kernel_rfl) (by kernel_rfl) (by simp [Value.oneCell']) (by simp) (by kernel_rfl)) ?_
  rintro w71 ⟨M71, G71, B71⟩
  obtain ⟨h72, l72, G72, hb72⟩ := B71.freeze G71
  refine WL.nil ?_
  refine EX.then_code ?_
  refine CW.ret ?_
  refine EX.retCell (vs := [(.int .i64 ((f).rule)), (.int .i64 ((f).alt)), (.slice a56 (((f).facts).length) (((f).facts).length))]) rfl (by kernel_rfl) (by kernel_rfl) (G72.imm _ _ ((PH.le_refl _) _ _ hb72)) (agg_at (by kernel_rfl)) ?_
  obtain ⟨N73, s74, s75⟩ : ∃ N_, Blk b53 (.cells #[(.int .i64 ((f).rule)), (.int .i64 ((f).alt)), (.slice a56 (((f).facts).length) (((f).facts).length))] 28 (0, 0)) M N_ ∧ Own 3 intE N_ N68 a56 k56 ((f).facts) := Ly.swap (Ly.own (E := intE) 3 a56 k56 ((f).facts)) (Ly.blk b53 (.cells #[(.int .i64 ((f).rule)), (.int .i64 ((f).alt)), (.slice a56 (((f).facts).length) (((f).facts).length))] 28 (0, 0))) s66 s69
  obtain ⟨h76, l76, G76, r76⟩ := s75.freeze G72
  exact Ret.mk (((l56.trans l57).trans l72).trans l76) (G76.drop s74.le) (⟨_, _, rfl, r76, gf.2⟩)
end Go.Proofs
