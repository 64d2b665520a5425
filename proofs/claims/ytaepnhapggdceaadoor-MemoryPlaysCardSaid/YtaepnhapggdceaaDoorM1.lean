import Derived.Test.YtaepnhapggdceaaDoorVl
import Derived.Test.YtaepnhapggdceaaDoorChecked
namespace Go.Proofs
open Go Go.Wk
theorem clipV_spec {K : Key} {w : World} {h M : PH} (G : Wld K w h M) {a : Option Addr} {m c : Nat} (hc : m ≤ c) :
    Calls Tryd.prog 33 #[.slice a m c] w (Ret K h M fun _ v => v = .slice a m m) := by
  refine enter (l := [(.slice a m c)]) Tryd.func33 rfl Tryd.ntmps33 (Nat.le_of_ble_eq_true rfl) ?_
  simp only [params]
  refine CW.seq ?_
  refine CW.region ?_
  refine WL.q (.slice none 0 0) (by kernel_rfl) rfl (by kernel_rfl) (by kernel_rfl) ?_
  refine WL.nil ?_
  refine EX.then_code ?_
  refine CW.seq ?_
  refine CW.region ?_
  refine WL.q (.slice a m c) (by kernel_rfl) rfl (by kernel_rfl) (by kernel_rfl) ?_
  refine WL.q (.slice a m c) (by kernel_rfl) rfl (by kernel_rfl) (by kernel_rfl) ?_
  refine WL.q (.int .i64 (m : Int)) (by kernel_rfl) rfl (by kernel_rfl) (by kernel_rfl) ?_
  refine WL.q (.slice a m c) (by kernel_rfl) rfl (by kernel_rfl) (by kernel_rfl) ?_
  refine WL.q (.int .i64 (m : Int)) (by kernel_rfl) rfl (by kernel_rfl) (by kernel_rfl) ?_
  refine WL.q (.slice a m m) (by kernel_rfl) rfl (by kernel_rfl) (q_clip (e := 29) (sz := 3) (cap := c) (k := .i64) (k' := .i64) rfl (by kernel_rfl) (by kernel_rfl) (by kernel_rfl) (by kernel_rfl) (by omega)) ?_
  refine WL.q (.slice a m m) (by kernel_rfl) rfl (by kernel_rfl) (by kernel_rfl) ?_
  refine WL.nil ?_
  refine EX.then_code ?_
  refine CW.ret ?_
  refine EX.ret1 (v := (.slice a m m)) rfl (by kernel_rfl) ?_
  exact Ret.mk (PH.le_refl _) G rfl

theorem clipF_spec {K : Key} {w : World} {h M : PH} (G : Wld K w h M) {a : Option Addr} {m c : Nat} (hc : m ≤ c) :
    Calls Tryd.prog 27 #[.slice a m c] w (Ret K h M fun _ v => v = .slice a m m) := by
  refine enter (l := [(.slice a m c)]) Tryd.func27 rfl Tryd.ntmps27 (Nat.le_of_ble_eq_true rfl) ?_
  simp only [params]
  refine CW.seq ?_
  refine CW.region ?_
  refine WL.q (.slice none 0 0) (by kernel_rfl) rfl (by kernel_rfl) (by kernel_rfl) ?_
  refine WL.nil ?_
  refine EX.then_code ?_
  refine CW.seq ?_
  refine CW.region ?_
  refine WL.q (.slice a m c) (by kernel_rfl) rfl (by kernel_rfl) (by kernel_rfl) ?_
  refine WL.q (.slice a m c) (by kernel_rfl) rfl (by kernel_rfl) (by kernel_rfl) ?_
  refine WL.q (.int .i64 (m : Int)) (by kernel_rfl) rfl (by kernel_rfl) (by kernel_rfl) ?_
  refine WL.q (.slice a m c) (by kernel_rfl) rfl (by kernel_rfl) (by kernel_rfl) ?_
  refine WL.q (.int .i64 (m : Int)) (by kernel_rfl) rfl (by kernel_rfl) (by kernel_rfl) ?_
  refine WL.q (.slice a m m) (by kernel_rfl) rfl (by kernel_rfl) (q_clip (e := 55) (sz := 3) (cap := c) (k := .i64) (k' := .i64) rfl (by kernel_rfl) (by kernel_rfl) (by kernel_rfl) (by kernel_rfl) (by omega)) ?_
  refine WL.q (.slice a m m) (by kernel_rfl) rfl (by kernel_rfl) (by kernel_rfl) ?_
  refine WL.nil ?_
  refine EX.then_code ?_
  refine CW.ret ?_
  refine EX.ret1 (v := (.slice a m m)) rfl (by kernel_rfl) ?_
  exact Ret.mk (PH.le_refl _) G rfl

theorem cloneV_spec_nil {K : Key} {w : World} {h M : PH} (G : Wld K w h M) {xs : List Val} {c : Nat} (Hx : RS (PH.all w) valE none xs) (hb : xs.length ≤ 1000000) :
    Calls Tryd.prog 34 #[.slice none xs.length c] w (RetM K h fun h' M' v => ∃ a' c', v = .slice a' xs.length c' ∧ Own 29 valE M M' a' c' xs ∧ (none = (none : Option Addr) → a' = none)) := by
  refine enter (l := [(.slice none xs.length c)]) Tryd.func34 rfl Tryd.ntmps34 (Nat.le_of_ble_eq_true rfl) ?_
  simp only [params]
  refine CW.seq ?_
  refine CW.region ?_
  refine WL.q (.slice none 0 0) (by kernel_rfl) rfl (by kernel_rfl) (by kernel_rfl) ?_
  refine WL.nil ?_
  refine EX.then_code ?_
  refine CW.seq ?_
  refine CW.seq ?_
  refine CW.region ?_
  refine WL.q (.slice none xs.length c) (by kernel_rfl) rfl (by kernel_rfl) (by kernel_rfl) ?_
  refine WL.q (.bool true) (by kernel_rfl) rfl (by kernel_rfl) (by kernel_rfl) ?_
  refine WL.nil ?_
  refine EX.then_code ?_
  refine CW.cond_t (by kernel_rfl) (by kernel_rfl) ?_
  refine CW.seq ?_
  refine CW.region ?_
  refine WL.q (.slice none 0 0) (by kernel_rfl) rfl (by kernel_rfl) (by kernel_rfl) ?_
  refine WL.nil ?_
  refine EX.then_code ?_
  refine CW.ret ?_
  refine EX.ret_then ?_
  refine EX.ret1 (v := (.slice none 0 0)) rfl (by kernel_rfl) ?_
  have hx : xs = [] := by rcases Hx with r_ | ⟨_, _, _, _, _, r_, _⟩; (exact r_); (cases r_)
  subst hx
  exact RetM.mk (PH.le_refl _) G ⟨none, 0, rfl, Own.nil _ _ _, fun _ => rfl⟩

theorem cloneV_spec_some {K : Key} {w : World} {h M : PH} (G : Wld K w h M) {ad : Addr} {xs : List Val} {c : Nat} (Hx : RS (PH.all w) valE (some ad) xs) (hb : xs.length ≤ 1000000) :
    Calls Tryd.prog 34 #[.slice (some ad) xs.length c] w (RetM K h fun h' M' v => ∃ a' c', v = .slice a' xs.length c' ∧ Own 29 valE M M' a' c' xs ∧ (some ad = none → a' = none)) := by
  refine enter (l := [(.slice (some ad) xs.length c)]) Tryd.func34 rfl Tryd.ntmps34 (Nat.le_of_ble_eq_true rfl) ?_
  simp only [params]
  refine CW.seq ?_
  refine CW.region ?_
  refine WL.q (.slice none 0 0) (by kernel_rfl) rfl (by kernel_rfl) (by kernel_rfl) ?_
  refine WL.nil ?_
  refine EX.then_code ?_
  refine CW.seq ?_
  refine CW.seq ?_
  refine CW.region ?_
  refine WL.q (.slice (some ad) xs.length c) (by kernel_rfl) rfl (by kernel_rfl) (by kernel_rfl) ?_
  refine WL.q (.bool false) (by kernel_rfl) rfl (by kernel_rfl) (by kernel_rfl) ?_
  refine WL.nil ?_
  refine EX.then_code ?_
  refine CW.cond_f (by kernel_rfl) (by kernel_rfl) ?_
  refine CW.skip ?_
  refine EX.then_code ?_
  refine CW.seq ?_
  refine CW.region ?_
  refine WL.ex (by kernel_rfl) rfl (by kernel_rfl) (q_newB (ob := (.cells #[] 29 (0, 0))) G (fun b_ => .slice (some ⟨b_, 0, none⟩) 0 0) (fun u_ => by kernel_rfl)) ?_
  rintro _ w1 ⟨b1, M1, rfl, G1, B1, L1⟩
  have o1 : Own 29 valE M M1 (some ⟨b1, 0, none⟩) 0 ([] : List _) := Own.lit2 B1 (by kernel_rfl) (by kernel_rfl) (by decide)
  refine WL.q (.slice (some ad) xs.length c) (by kernel_rfl) rfl (by kernel_rfl) (by kernel_rfl) ?_
  refine WL.ex (by kernel_rfl) rfl (by kernel_rfl) (q_app (e := 29) (bytes := 32) (cap := 0) (c2 := c) (M0 := M) (xs := ([] : List _)) (ys := xs) G1 o1 (Hx.mono L1) rfl (by kernel_rfl) (by kernel_rfl) (by kernel_rfl) (by first | (simp only [maxLen, List.length_append, List.length_cons, List.length_nil]; omega) | (simp only [maxLen]; omega)) (by first | omega | (simp only [List.length_append, List.length_cons, List.length_nil]; omega))) ?_
  rintro _ w2 ⟨a2, k2, M2, rfl, G2, o2, z2⟩
  refine WL.q (.slice a2 (([] ++ xs).length) k2) (by kernel_rfl) rfl (by kernel_rfl) (by kernel_rfl) ?_
  refine WL.nil ?_
  refine EX.then_code ?_
  refine CW.ret ?_
  refine EX.ret1 (v := (.slice a2 (([] ++ xs).length) k2)) rfl (by kernel_rfl) ?_
  exact RetM.mk (PH.le_refl _) G2 (⟨_, _, rfl, o2, fun e_ => by cases e_⟩)

theorem cloneV_spec {K : Key} {w : World} {h M : PH} (G : Wld K w h M) {a : Option Addr} {xs : List Val} {c : Nat} (Hx : RS (PH.all w) valE a xs) (hb : xs.length ≤ 1000000) :
    Calls Tryd.prog 34 #[.slice a xs.length c] w (RetM K h fun h' M' v => ∃ a' c', v = .slice a' xs.length c' ∧ Own 29 valE M M' a' c' xs ∧ (a = none → a' = none)) := by
  cases a with
  | none => exact cloneV_spec_nil G Hx hb
  | some ad => exact cloneV_spec_some G Hx hb

theorem sameV_spec {K : Key} {w : World} {h M : PH} (G : Wld K w h M) {a b : Val} :
    Calls Tryd.prog 30 #[.agg (valE.enc a).toArray, .agg (valE.enc b).toArray] w (Ret K h M fun _ v => v = .bool (sameV a b)) := by
  refine enter (l := [(.agg #[(.int .i64 ((a).k)), (.int .i64 ((a).i)), (.string ((a).s))]), (.agg #[(.int .i64 ((b).k)), (.int .i64 ((b).i)), (.string ((b).s))])]) Tryd.func30 rfl Tryd.ntmps30 (Nat.le_of_ble_eq_true rfl) ?_
  simp only [params]
  refine CW.seq ?_
  refine CW.region ?_
  refine WL.ex (by kernel_rfl) rfl (by kernel_rfl) (q_newF (ob := (.cells #[(.int .i64 ((a).k)), (.int .i64 ((a).i)), (.string ((a).s))] 29 (0, 0))) G (fun b_ => .pointer (some ⟨b_, 0, none⟩)) (fun u_ => by kernel_rfl)) ?_
  rintro _ w3 ⟨b3, h3, rfl, l3, G3, hb3, L3⟩
  refine WL.ex (by kernel_rfl) rfl (by kernel_rfl) (q_newF (ob := (.cells #[(.int .i64 ((b).k)), (.int .i64 ((b).i)), (.string ((b).s))] 29 (0, 0))) G3 (fun b_ => .pointer (some ⟨b_, 0, none⟩)) (fun u_ => by kernel_rfl)) ?_
  rintro _ w4 ⟨b4, h4, rfl, l4, G4, hb4, L4⟩
  refine WL.q (.bool false) (by kernel_rfl) rfl (by kernel_rfl) (by kernel_rfl) ?_
  refine WL.nil ?_
  refine EX.then_code ?_
  refine CW.seq ?_
  refine CW.region ?_
  refine WL.q (.pointer (some ⟨b3, 0, none⟩)) (by kernel_rfl) rfl (by kernel_rfl) (by kernel_rfl) ?_
  refine WL.q (.int .i64 ((a).k)) (by kernel_rfl) rfl (by kernel_rfl) (q_load (off := 0) rfl (by kernel_rfl) (by kernel_rfl) (G4.imm _ _ (l4 _ _ hb3)) (by kernel_rfl)) ?_
  refine WL.q (.pointer (some ⟨b4, 0, none⟩)) (by kernel_rfl) rfl (by kernel_rfl) (by kernel_rfl) ?_
  refine WL.q (.int .i64 ((b).k)) (by kernel_rfl) rfl (by kernel_rfl) (q_load (off := 0) rfl (by kernel_rfl) (by kernel_rfl) (G4.imm _ _ ((PH.le_refl _) _ _ hb4)) (by kernel_rfl)) ?_
  refine WL.q (.bool (((a).k : Int) == (b).k)) (by kernel_rfl) rfl (by kernel_rfl) (by kernel_rfl) ?_
  refine WL.q (.bool (((a).k : Int) == (b).k)) (by kernel_rfl) rfl (by kernel_rfl) (by kernel_rfl) ?_
  rcases bool_cases (((a).k : Int) == (b).k) with c5 | c5
  ·
    skip
    have d6 := eq_of_beq c5
    refine WL.know 10 (.bool true) (x := .bool (((a).k : Int) == (b).k)) (by kernel_rfl) (congrArg Value.bool c5) ?_
    refine WL.q (.pointer (some ⟨b3, 1, none⟩)) (by kernel_rfl) rfl (by kernel_rfl) (by kernel_rfl) ?_
    refine WL.q (.int .i64 ((a).i)) (by kernel_rfl) rfl (by kernel_rfl) (q_load (off := 1) rfl (by kernel_rfl) (by kernel_rfl) (G4.imm _ _ (l4 _ _ hb3)) (by kernel_rfl)) ?_
    refine WL.q (.pointer (some ⟨b4, 1, none⟩)) (by kernel_rfl) rfl (by kernel_rfl) (by kernel_rfl) ?_
    refine WL.q (.int .i64 ((b).i)) (by kernel_rfl) rfl (by kernel_rfl) (q_load (off := 1) rfl (by kernel_rfl) (by kernel_rfl) (G4.imm _ _ ((PH.le_refl _) _ _ hb4)) (by kernel_rfl)) ?_
    refine WL.q (.bool (((a).i : Int) == (b).i)) (by kernel_rfl) rfl (by kernel_rfl) (by kernel_rfl) ?_
    refine WL.q (.bool (((a).i : Int) == (b).i)) (by kernel_rfl) rfl (by kernel_rfl) (by kernel_rfl) ?_
    refine WL.q (.bool (((a).i : Int) == (b).i)) (by kernel_rfl) rfl (by kernel_rfl) (by kernel_rfl) ?_
    rcases bool_cases (((a).i : Int) == (b).i) with c7 | c7
    ·
      skip
      have d8 := eq_of_beq c7
      refine WL.know 17 (.bool true) (x := .bool (((a).i : Int) == (b).i)) (by kernel_rfl) (congrArg Value.bool c7) ?_
      refine WL.q (.pointer (some ⟨b3, 2, none⟩)) (by kernel_rfl) rfl (by kernel_rfl) (by kernel_rfl) ?_
      refine WL.q (.string ((a).s)) (by kernel_rfl) rfl (by kernel_rfl) (q_load (off := 2) rfl (by kernel_rfl) (by kernel_rfl) (G4.imm _ _ (l4 _ _ hb3)) (by kernel_rfl)) ?_
      refine WL.q (.pointer (some ⟨b4, 2, none⟩)) (by kernel_rfl) rfl (by kernel_rfl) (by kernel_rfl) ?_
      refine WL.q (.string ((b).s)) (by kernel_rfl) rfl (by kernel_rfl) (q_load (off := 2) rfl (by kernel_rfl) (by kernel_rfl) (G4.imm _ _ ((PH.le_refl _) _ _ hb4)) (by kernel_rfl)) ?_
      refine WL.q (.bool (sameS ((a).s) ((b).s))) (by kernel_rfl) rfl (by kernel_rfl) (by kernel_rfl) ?_
      refine WL.q (.bool (sameS ((a).s) ((b).s))) (by kernel_rfl) rfl (by kernel_rfl) (by kernel_rfl) ?_
      refine WL.q (.bool (sameS ((a).s) ((b).s))) (by kernel_rfl) rfl (by kernel_rfl) (by kernel_rfl) ?_
      refine WL.nil ?_
      refine EX.then_code ?_
      refine CW.ret ?_
      refine EX.ret1 (v := (.bool (sameS ((a).s) ((b).s)))) rfl (by kernel_rfl) ?_
      exact Ret.mk (l3.trans l4) G4 (sameV_s (by assumption) (by assumption))
    ·
      skip
      have d9 := ne_of_beq_false c7
      refine WL.know 17 (.bool false) (x := .bool (((a).i : Int) == (b).i)) (by kernel_rfl) (congrArg Value.bool c7) ?_
      refine WL.skip (by kernel_rfl) rfl (by kernel_rfl) ?_
      refine WL.skip (by kernel_rfl) rfl (by kernel_rfl) ?_
      refine WL.skip (by kernel_rfl) rfl (by kernel_rfl) ?_
      refine WL.skip (by kernel_rfl) rfl (by kernel_rfl) ?_
      refine WL.skip (by kernel_rfl) rfl (by kernel_rfl) ?_
      refine WL.q (.bool false) (by kernel_rfl) rfl (by kernel_rfl) (by kernel_rfl) ?_
      refine WL.q (.bool false) (by kernel_rfl) rfl (by kernel_rfl) (by kernel_rfl) ?_
      refine WL.nil ?_
      refine EX.then_code ?_
      refine CW.ret ?_
      refine EX.ret1 (v := (.bool false)) rfl (by kernel_rfl) ?_
      exact Ret.mk (l3.trans l4) G4 (by have := sameV_no (a := a) (b := b) (by first | exact .inl (by omega) | exact .inr (by omega)); simp [this])
  ·
    skip
    have d10 := ne_of_beq_false c5
    refine WL.know 10 (.bool false) (x := .bool (((a).k : Int) == (b).k)) (by kernel_rfl) (congrArg Value.bool c5) ?_
    refine WL.skip (by kernel_rfl) rfl (by kernel_rfl) ?_
    refine WL.skip (by kernel_rfl) rfl (by kernel_rfl) ?_
    refine WL.skip (by kernel_rfl) rfl (by kernel_rfl) ?_
    refine WL.skip (by kernel_rfl) rfl (by kernel_rfl) ?_
    refine WL.skip (by kernel_rfl) rfl (by kernel_rfl) ?_
    refine WL.q (.bool false) (by kernel_rfl) rfl (by kernel_rfl) (by kernel_rfl) ?_
    refine WL.q (.bool false) (by kernel_rfl) rfl (by kernel_rfl) (by kernel_rfl) ?_
    refine WL.skip (by kernel_rfl) rfl (by kernel_rfl) ?_
    refine WL.skip (by kernel_rfl) rfl (by kernel_rfl) ?_
    refine WL.skip (by kernel_rfl) rfl (by kernel_rfl) ?_
    refine WL.skip (by kernel_rfl) rfl (by kernel_rfl) ?_
    refine WL.skip (by kernel_rfl) rfl (by kernel_rfl) ?_
    refine WL.q (.bool false) (by kernel_rfl) rfl (by kernel_rfl) (by kernel_rfl) ?_
    refine WL.q (.bool false) (by kernel_rfl) rfl (by kernel_rfl) (by kernel_rfl) ?_
    refine WL.nil ?_
    refine EX.then_code ?_
    refine CW.ret ?_
    refine EX.ret1 (v := (.bool false)) rfl (by kernel_rfl) ?_
    exact Ret.mk (l3.trans l4) G4 (by have := sameV_no (a := a) (b := b) (by first | exact .inl (by omega) | exact .inr (by omega)); simp [this])

theorem rowsV_spec {K : Key} {w : World} {h M : PH} (G : Wld K w h M) {ax ay : Option Addr} {xs ys : List Val} {cx cy : Nat} (Hx : RS h valE ax xs) (Hy : RS h valE ay ys) (hb : xs.length ≤ 1000000) :
    Calls Tryd.prog 19 #[.slice ax xs.length cx, .slice ay ys.length cy] w (Ret K h M fun _ v => v = .bool (rowsV xs ys)) := by
  refine enter (l := [(.slice ax xs.length cx), (.slice ay ys.length cy)]) Tryd.func19 rfl Tryd.ntmps19 (Nat.le_of_ble_eq_true rfl) ?_
  simp only [params]
  refine CW.seq ?_
  refine CW.region ?_
  refine WL.q (.bool false) (by kernel_rfl) rfl (by kernel_rfl) (by kernel_rfl) ?_
  refine WL.nil ?_
  refine EX.then_code ?_
  refine CW.seq ?_
  refine CW.seq ?_
  refine CW.region ?_
  refine WL.q (.slice ax xs.length cx) (by kernel_rfl) rfl (by kernel_rfl) (by kernel_rfl) ?_
  refine WL.q (.int .i64 (xs.length : Int)) (by kernel_rfl) rfl (by kernel_rfl) (by kernel_rfl) ?_
  refine WL.q (.slice ay ys.length cy) (by kernel_rfl) rfl (by kernel_rfl) (by kernel_rfl) ?_
  refine WL.q (.int .i64 (ys.length : Int)) (by kernel_rfl) rfl (by kernel_rfl) (by kernel_rfl) ?_
  refine WL.q (.bool (((xs.length : Int) : Int) != (ys.length : Int))) (by kernel_rfl) rfl (by kernel_rfl) (by kernel_rfl) ?_
  refine WL.nil ?_
  refine EX.then_code ?_
  refine CW.cond (((xs.length : Int) : Int) != (ys.length : Int)) (by kernel_rfl) (by kernel_rfl) (fun c11 => ?_) (fun c11 => ?_)
  ·
    skip
    have d12 := bne_true c11
    refine CW.seq ?_
    refine CW.region ?_
    refine WL.q (.bool false) (by kernel_rfl) rfl (by kernel_rfl) (by kernel_rfl) ?_
    refine WL.nil ?_
    refine EX.then_code ?_
    refine CW.ret ?_
    refine EX.ret_then ?_
    refine EX.ret1 (v := (.bool false)) rfl (by kernel_rfl) ?_
    exact Ret.mk (PH.le_refl _) G (congrArg Value.bool ((rowsV_f (by first | exact .inl (by omega) | exact .inr ⟨k, by omega, by first | assumption | exact not_true (by assumption)⟩)).symm))
  ·
    skip
    have d13 := bne_false c11
    refine CW.skip ?_
    refine EX.then_code ?_
    refine CW.seq ?_
    refine CW.seq ?_
    refine CW.region ?_
    refine WL.q (.int .i64 0) (by kernel_rfl) rfl (by kernel_rfl) (by kernel_rfl) ?_
    refine WL.nil ?_
    refine EX.then_code ?_
    refine CW.block ?_
    refine CW.loop (β := Nat) (fun x_ => [(0, (.slice ax xs.length cx)), (1, (.slice ay ys.length cy)), (5, (.int .i64 (x_ : Int)))]) (fun x_ w_ => ∃ h_, (PH.le h h_) ∧ (Wld K w_ h_ M) ∧ (x_ ≤ xs.length) ∧ (∀ j < x_, sameV (xs.getD j valE.dflt) (ys.getD j valE.dflt) = true)) (fun x_ => xs.length - x_) 0 ⟨(by kernel_rfl), (by kernel_rfl), (lk_int (x := 0) (by kernel_rfl) (by first | omega | (dsimp only; done) | (dsimp only; omega))), trivial⟩ ⟨h, (PH.le_refl _), G, (by first | omega | assumption | (dsimp only [List.length_nil, List.length_append, List.length_cons]; omega)), (by simp)⟩ ?_
    rintro k w14 ⟨h14, l14, G14, hk, hn⟩
    try dsimp only at *
    refine CW.seq ?_
    refine CW.seq ?_
    refine CW.region ?_
    refine WL.q (.int .i64 (k : Int)) (by kernel_rfl) rfl (by kernel_rfl) (by kernel_rfl) ?_
    refine WL.q (.slice ax xs.length cx) (by kernel_rfl) rfl (by kernel_rfl) (by kernel_rfl) ?_
    refine WL.q (.int .i64 (xs.length : Int)) (by kernel_rfl) rfl (by kernel_rfl) (by kernel_rfl) ?_
    refine WL.q (.bool (decide ((k : Int) < (xs.length : Int)))) (by kernel_rfl) rfl (by kernel_rfl) (by kernel_rfl) ?_
    refine WL.nil ?_
    refine EX.then_code ?_
    refine CW.cond (decide ((k : Int) < (xs.length : Int))) (by kernel_rfl) (by kernel_rfl) (fun c15 => ?_) (fun c15 => ?_)
    ·
      skip
      have d16 := of_decide_eq_true c15
      refine CW.skip ?_
      refine EX.then_code ?_
      refine CW.seq ?_
      refine CW.block ?_
      refine CW.seq ?_
      refine CW.draw (by kernel_rfl) [(3, fun w_ => RS (PH.all w_) valE ax xs), (7, fun w_ => RS (PH.all w_) valE ay ys)] ?_
      refine DW.take (T := fun _ => True) 0 (.slice ax xs.length cx) rfl (by kernel_rfl) rfl (by kernel_rfl) (.inl fun _ => trivial) (by kernel_rfl) (Deaf.thens (Deaf.block (Deaf.thens (Deaf.thens (Deaf.block (Deaf.thens (Deaf.body RetM.not_panicked))))))) (fun w_ _ => (by kernel_rfl)) trivial ?_
      refine DW.take (T := fun _ => True) 1 (.int .i64 (k : Int)) rfl (by kernel_rfl) rfl (by kernel_rfl) (.inl fun _ => trivial) (by kernel_rfl) (Deaf.thens (Deaf.block (Deaf.thens (Deaf.thens (Deaf.block (Deaf.thens (Deaf.body RetM.not_panicked))))))) (fun w_ _ => (by kernel_rfl)) trivial ?_
      refine DW.take (T := fun _ => True) 2 (eptr ax (k * valE.sz)) rfl (by kernel_rfl) rfl (by kernel_rfl) (.inl fun _ => trivial) (by kernel_rfl) (Deaf.thens (Deaf.block (Deaf.thens (Deaf.thens (Deaf.block (Deaf.thens (Deaf.body RetM.not_panicked))))))) (fun w_ _ => (q_indexAddr (i := k) (E := valE) (xs := xs) (e := 29) (c := cx) (k := .i64) (m := xs.length) rfl rfl (by kernel_rfl) (by kernel_rfl) (by kernel_rfl) (Hx.mono (l14.trans (G14.drew).imm)) (by omega))) trivial ?_
      refine DW.take (T := fun w_ => RS (PH.all w_) valE ax xs) 3 (.agg #[(.int .i64 (((xs.getD k valE.dflt)).k)), (.int .i64 (((xs.getD k valE.dflt)).i)), (.string (((xs.getD k valE.dflt)).s))]) rfl (by kernel_rfl) rfl (by kernel_rfl) (.inr (by simp only [List.mem_cons, true_or, or_true])) (by kernel_rfl) (Deaf.thens (Deaf.block (Deaf.thens (Deaf.thens (Deaf.block (Deaf.thens (Deaf.body RetM.not_panicked))))))) (fun w_ T_ => (q_val (q_loadAgg_e (i := k) (E := valE) rfl (by kernel_rfl) (by kernel_rfl) T_ (by omega)) (by kernel_rfl))) (Hx.mono (l14.trans (G14.drew).imm)) ?_
      refine DW.take (T := fun _ => True) 4 (.slice ay ys.length cy) rfl (by kernel_rfl) rfl (by kernel_rfl) (.inl fun _ => trivial) (by kernel_rfl) (Deaf.thens (Deaf.block (Deaf.thens (Deaf.thens (Deaf.block (Deaf.thens (Deaf.body RetM.not_panicked))))))) (fun w_ _ => (by kernel_rfl)) trivial ?_
      refine DW.take (T := fun _ => True) 5 (.int .i64 (k : Int)) rfl (by kernel_rfl) rfl (by kernel_rfl) (.inl fun _ => trivial) (by kernel_rfl) (Deaf.thens (Deaf.block (Deaf.thens (Deaf.thens (Deaf.block (Deaf.thens (Deaf.body RetM.not_panicked))))))) (fun w_ _ => (by kernel_rfl)) trivial ?_
      refine DW.take (T := fun _ => True) 6 (eptr ay (k * valE.sz)) rfl (by kernel_rfl) rfl (by kernel_rfl) (.inl fun _ => trivial) (by kernel_rfl) (Deaf.thens (Deaf.block (Deaf.thens (Deaf.thens (Deaf.block (Deaf.thens (Deaf.body RetM.not_panicked))))))) (fun w_ _ => (q_indexAddr (i := k) (E := valE) (xs := ys) (e := 29) (c := cy) (k := .i64) (m := ys.length) rfl rfl (by kernel_rfl) (by kernel_rfl) (by kernel_rfl) (Hy.mono (l14.trans (G14.drew).imm)) (by omega))) trivial ?_
      refine DW.take (T := fun w_ => RS (PH.all w_) valE ay ys) 7 (.agg #[(.int .i64 (((ys.getD k valE.dflt)).k)), (.int .i64 (((ys.getD k valE.dflt)).i)), (.string (((ys.getD k valE.dflt)).s))]) rfl (by kernel_rfl) rfl (by kernel_rfl) (.inr (by simp only [List.mem_cons, true_or, or_true])) (by kernel_rfl) (Deaf.thens (Deaf.block (Deaf.thens (Deaf.thens (Deaf.block (Deaf.thens (Deaf.body RetM.not_panicked))))))) (fun w_ T_ => (q_val (q_loadAgg_e (i := k) (E := valE) rfl (by kernel_rfl) (by kernel_rfl) T_ (by omega)) (by kernel_rfl))) (Hy.mono (l14.trans (G14.drew).imm)) ?_
      refine DW.only 8 (by kernel_rfl) ?_
      refine DOp.call rfl (by kernel_rfl) rfl (by kernel_rfl) (by kernel_rfl) (sameV_spec (a := (xs.getD k valE.dflt)) (b := (ys.getD k valE.dflt)) (G14.drew)) (Ret.elimD (fun w17 h17 l17 G17 => ⟨.inl (by kernel_rfl), .inl (by kernel_rfl), trivial⟩) ?_)
      rintro w17 h17 _ l17 G17 rfl
      refine DW.take (T := fun _ => True) 9 (.bool (!(sameV (xs.getD k valE.dflt) (ys.getD k valE.dflt)))) rfl (by kernel_rfl) rfl (by kernel_rfl) (.inl fun _ => trivial) (by kernel_rfl) (Deaf.thens (Deaf.block (Deaf.thens (Deaf.thens (Deaf.block (Deaf.thens (Deaf.body RetM.not_panicked))))))) (fun w_ _ => (by kernel_rfl)) trivial ?_
      refine DW.done (by kernel_rfl) ?_
      refine EX.then_code ?_
      refine CW.cond (!(sameV (xs.getD k valE.dflt) (ys.getD k valE.dflt))) (by kernel_rfl) (by kernel_rfl) (fun c18 => ?_) (fun c18 => ?_)
      ·
        skip
        have d19 := not_true c18
        refine CW.seq ?_
        refine CW.region ?_
        refine WL.q (.bool false) (by kernel_rfl) rfl (by kernel_rfl) (by kernel_rfl) ?_
        refine WL.nil ?_
        refine EX.then_code ?_
        refine CW.ret ?_
        refine EX.ret_block ?_
        refine EX.ret_then ?_
        refine EX.ret_then ?_
        refine EX.ret_block ?_
        refine EX.ret_then ?_
        refine EX.ret1 (v := (.bool false)) rfl (by kernel_rfl) ?_
        exact Ret.mk (l14.trans l17) G17 (congrArg Value.bool ((rowsV_f (by first | exact .inl (by omega) | exact .inr ⟨k, by omega, by first | assumption | exact not_true (by assumption)⟩)).symm))
      ·
        skip
        have d21 := not_false c18
        refine CW.skip ?_
        refine EX.in_block ?_
        refine EX.then_code ?_
        refine CW.region ?_
        refine WL.q (.int .i64 (k : Int)) (by kernel_rfl) rfl (by kernel_rfl) (by kernel_rfl) ?_
        refine WL.q (.int .i64 ((k + 1 : Nat) : Int)) (by kernel_rfl) rfl (by kernel_rfl) (q_int (x := IntKind.i64.wrap ((k : Int) + 1)) (by kernel_rfl) (wrap_to (by omega) (by omega) (by omega))) ?_
        refine WL.q (.int .i64 ((k + 1 : Nat) : Int)) (by kernel_rfl) rfl (by kernel_rfl) (by kernel_rfl) ?_
        refine WL.nil ?_
        exact EX.then_loop (k + 1) ⟨(by kernel_rfl), (by kernel_rfl), (lk_int (x := ((k + 1 : Nat) : Int)) (by kernel_rfl) (by first | omega | (dsimp only; done) | (dsimp only; omega))), trivial⟩ ⟨h17, (l14.trans l17), G17, (by first | omega | assumption | (dsimp only [List.length_nil, List.length_append, List.length_cons]; omega)), (fun j hj => by rcases Nat.lt_or_ge j k with q | q; (exact hn j q); (obtain rfl : j = k := by omega); first | assumption | exact not_false (by assumption))⟩ (by first | omega | (dsimp only; omega))
    ·
      skip
      have d23 := of_decide_eq_false c15
      refine CW.exit ?_
      refine EX.exit_then ?_
      refine EX.exit_then ?_
      refine EX.exit_here ?_
      refine EX.then_code ?_
      refine CW.seq ?_
      refine CW.region ?_
      refine WL.q (.bool true) (by kernel_rfl) rfl (by kernel_rfl) (by kernel_rfl) ?_
      refine WL.nil ?_
      refine EX.then_code ?_
      refine CW.ret ?_
      refine EX.ret1 (v := (.bool true)) rfl (by kernel_rfl) ?_
      exact Ret.mk l14 G14 (congrArg Value.bool ((rowsV_t (by omega) (fun j hj => hn j (by omega))).symm))
end Go.Proofs
