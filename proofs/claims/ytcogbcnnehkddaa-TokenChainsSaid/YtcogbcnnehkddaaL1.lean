import Derived.Test.YtcogbcnnehkddaaSl
import Derived.Test.YtcogbcnnehkddaaChecked
namespace Go.Proofs
open Go Go.Wk
theorem clip_spec {K : Key} {w : World} {h M : PH} (G : Wld K w h M) {a : Option Addr} {m c : Nat} (hc : m ≤ c) :
    Calls Try.prog 20 #[.slice a m c] w (Ret K h M fun _ v => v = .slice a m m) := by
  refine enter (l := [(.slice a m c)]) Try.func20 rfl Try.ntmps20 (Nat.le_of_ble_eq_true rfl) ?_
  simp only [params]
  refine CW.seq ?_
  refine CW.region ?_
  refine WL.q (.slice none 0 0) (by kernel_rfl) rfl (by kernel_rfl) (by kernel_rfl) ?_
  refine WL.nil ?_
  refine EX.then_code ?_
  refine CW.seq ?_
  refine CW.region ?_
  refine WL.q (.slice a m c) (by kernel_rfl) rfl (by kernel_rfl) (by kernel_rfl) ?_
  refine WL.q (.slice a m c) (by kernel_rfl) rfl (by kernel_rfl) (by kernel_rfl) ?_
  refine WL.q (.int .i64 (m : Int)) (by kernel_rfl) rfl (by kernel_rfl) (by kernel_rfl) ?_
  refine WL.q (.slice a m c) (by kernel_rfl) rfl (by kernel_rfl) (by kernel_rfl) ?_
  refine WL.q (.int .i64 (m : Int)) (by kernel_rfl) rfl (by kernel_rfl) (by kernel_rfl) ?_
  refine WL.q (.slice a m m) (by kernel_rfl) rfl (by kernel_rfl) (q_clip (e := 3) (sz := 1) (cap := c) (k := .i64) (k' := .i64) rfl (by kernel_rfl) (by kernel_rfl) (by kernel_rfl) (by kernel_rfl) (by omega)) ?_
  refine WL.q (.slice a m m) (by kernel_rfl) rfl (by kernel_rfl) (by kernel_rfl) ?_
  refine WL.nil ?_
  refine EX.then_code ?_
  refine CW.ret ?_
  refine EX.ret1 (v := (.slice a m m)) rfl (by kernel_rfl) ?_
  exact Ret.mk (PH.le_refl _) G (rfl)

theorem clone_spec_nil {K : Key} {w : World} {h M : PH} (G : Wld K w h M) {xs : List Int} {c : Nat} (Hx : RS (PH.all w) intE none xs) (hb : xs.length ≤ 4000000) :
    Calls Try.prog 25 #[.slice none xs.length c] w (RetM K h fun h' M' v => ∃ a' c', v = .slice a' xs.length c' ∧ Own 3 intE M M' a' c' xs ∧ (none = (none : Option Addr) → a' = none)) := by
  refine enter (l := [(.slice none xs.length c)]) Try.func25 rfl Try.ntmps25 (Nat.le_of_ble_eq_true rfl) ?_
  simp only [params]
  refine CW.seq ?_
  refine CW.region ?_
  refine WL.q (.slice none 0 0) (by kernel_rfl) rfl (by kernel_rfl) (by kernel_rfl) ?_
  refine WL.nil ?_
  refine EX.then_code ?_
  refine CW.seq ?_
  refine CW.seq ?_
  refine CW.region ?_
  refine WL.q (.slice none xs.length c) (by kernel_rfl) rfl (by kernel_rfl) (by kernel_rfl) ?_
  refine WL.q (.bool true) (by kernel_rfl) rfl (by kernel_rfl) (by kernel_rfl) ?_
  refine WL.nil ?_
  refine EX.then_code ?_
  refine CW.cond_t (by kernel_rfl) (by kernel_rfl) ?_
  refine CW.seq ?_
  refine CW.region ?_
  refine WL.q (.slice none 0 0) (by kernel_rfl) rfl (by kernel_rfl) (by kernel_rfl) ?_
  refine WL.nil ?_
  refine EX.then_code ?_
  refine CW.ret ?_
  refine EX.ret_then ?_
  refine EX.ret1 (v := (.slice none 0 0)) rfl (by kernel_rfl) ?_
  have hx : xs = [] := by rcases Hx with r_ | ⟨_, _, _, _, _, r_, _⟩; (exact r_); (cases r_)
  subst hx
  exact RetM.mk (PH.le_refl _) G ⟨none, 0, rfl, Own.nil _ _ _, fun _ => rfl⟩

theorem clone_spec_some {K : Key} {w : World} {h M : PH} (G : Wld K w h M) {ad : Addr} {xs : List Int} {c : Nat} (Hx : RS (PH.all w) intE (some ad) xs) (hb : xs.length ≤ 4000000) :
    Calls Try.prog 25 #[.slice (some ad) xs.length c] w (RetM K h fun h' M' v => ∃ a' c', v = .slice a' xs.length c' ∧ Own 3 intE M M' a' c' xs ∧ (some ad = none → a' = none)) := by
  refine enter (l := [(.slice (some ad) xs.length c)]) Try.func25 rfl Try.ntmps25 (Nat.le_of_ble_eq_true rfl) ?_
  simp only [params]
  refine CW.seq ?_
  refine CW.region ?_
  refine WL.q (.slice none 0 0) (by kernel_rfl) rfl (by kernel_rfl) (by kernel_rfl) ?_
  refine WL.nil ?_
  refine EX.then_code ?_
  refine CW.seq ?_
  refine CW.seq ?_
  refine CW.region ?_
  refine WL.q (.slice (some ad) xs.length c) (by kernel_rfl) rfl (by kernel_rfl) (by kernel_rfl) ?_
  refine WL.q (.bool false) (by kernel_rfl) rfl (by kernel_rfl) (by kernel_rfl) ?_
  refine WL.nil ?_
  refine EX.then_code ?_
  refine CW.cond_f (by kernel_rfl) (by kernel_rfl) ?_
  refine CW.skip ?_
  refine EX.then_code ?_
  refine CW.seq ?_
  refine CW.region ?_
  refine WL.newL (ob := (.cells #[] 3)) G (by kernel_rfl) rfl (by kernel_rfl) (fun b_ => .slice (some ⟨b_, 0, none⟩) 0 0) (fun u_ => by kernel_rfl) ?_
  intro b1 w1 n1 i1 G1 L_
  have Hx1 := Hx.mono L_
  refine WL.q (.slice (some ad) xs.length c) (by kernel_rfl) rfl (by kernel_rfl) (by kernel_rfl) ?_
  have o2 : Own 3 intE M (M.set b1 (.cells #[] 3)) (some ⟨b1, 0, none⟩) 0 ([] : List _) := Own.lit n1 (by kernel_rfl) (by kernel_rfl) (by decide)
  refine WL.append (e := 3) (bytes := 8) (cap := 0) (c2 := c) (M0 := M) (xs := ([])) (ys := xs) G1 (PH.le_refl _) o2 (PH.le_refl _) Hx1 rfl (by kernel_rfl) (by kernel_rfl) rfl (by kernel_rfl) (by kernel_rfl) (by kernel_rfl) (by first | (simp only [maxLen, List.length_append, List.length_cons, List.length_nil]; omega) | (simp only [maxLen]; omega)) (by first | omega | (simp only [List.length_append, List.length_cons, List.length_nil]; omega)) ?_
  intro a4 k4 w4 M4 G4 o4 z4
  refine WL.q (.slice a4 (([] ++ xs).length) k4) (by kernel_rfl) rfl (by kernel_rfl) (by kernel_rfl) ?_
  refine WL.nil ?_
  refine EX.then_code ?_
  refine CW.ret ?_
  refine EX.ret1 (v := (.slice a4 (([] ++ xs).length) k4)) rfl (by kernel_rfl) ?_
  exact RetM.mk (PH.le_refl _) G4 ⟨_, _, rfl, o4, fun e_ => by cases e_⟩

theorem clone_spec {K : Key} {w : World} {h M : PH} (G : Wld K w h M) {a : Option Addr} {xs : List Int} {c : Nat} (Hx : RS (PH.all w) intE a xs) (hb : xs.length ≤ 4000000) :
    Calls Try.prog 25 #[.slice a xs.length c] w (RetM K h fun h' M' v => ∃ a' c', v = .slice a' xs.length c' ∧ Own 3 intE M M' a' c' xs ∧ (a = none → a' = none)) := by
  cases a with
  | none => exact clone_spec_nil G Hx hb
  | some ad => exact clone_spec_some G Hx hb

theorem idx_spec {K : Key} {w : World} {h M : PH} (G : Wld K w h M) {a : Option Addr} {xs : List Int} {c : Nat} (Hr : ∀ w' h' M', PH.le h h' → Wld K w' h' M' → M' = M → RS (PH.all w') intE a xs) (hb : xs.length ≤ 4000000) (fid : FuncId) (caps : Array Value) (p : Int → Bool) (he : Enters Try.prog fid)
    (hf : ∀ x ∈ xs, ∀ w' h' M', PH.le h h' → Wld K w' h' M' → M' = M → Calls Try.prog fid (#[.int .i64 x] ++ caps) w' (Ret K h' M' fun _ v => v = .bool (p x))) :
    Calls Try.prog 30 #[.slice a xs.length c, .func (.func fid) #[] caps] w (Ret K h M fun _ v => v = .int .i64 (idxF p xs)) := by
  refine enter (l := [(.slice a xs.length c), (.func (.func fid) #[] caps)]) Try.func30 rfl Try.ntmps30 (Nat.le_of_ble_eq_true rfl) ?_
  simp only [params]
  refine CW.seq ?_
  refine CW.region ?_
  refine WL.q (.int .i64 0) (by kernel_rfl) rfl (by kernel_rfl) (by kernel_rfl) ?_
  refine WL.nil ?_
  refine EX.then_code ?_
  refine CW.seq ?_
  refine CW.seq ?_
  refine CW.region ?_
  refine WL.q (.slice a xs.length c) (by kernel_rfl) rfl (by kernel_rfl) (by kernel_rfl) ?_
  refine WL.q (.int .i64 (xs.length : Int)) (by kernel_rfl) rfl (by kernel_rfl) (by kernel_rfl) ?_
  refine WL.q (.int .i64 0) (by kernel_rfl) rfl (by kernel_rfl) (by kernel_rfl) ?_
  refine WL.nil ?_
  refine EX.then_code ?_
  refine CW.block ?_
  refine CW.loop (β := Nat) (fun x_ => [(0, (.slice a xs.length c)), (1, (.func (.func fid) #[] caps)), (7, (.int .i64 (xs.length : Int))), (8, (.int .i64 (x_ : Int)))]) (fun x_ w_ => ∃ h_ , (PH.le h h_) ∧ (Wld K w_ h_ M) ∧ (x_ ≤ xs.length) ∧ (∀ j < x_, p (xs.getD j intE.dflt) = false)) (fun x_ => xs.length - x_) 0 ⟨(by kernel_rfl), (by kernel_rfl), (by kernel_rfl), (lk_int (x := 0) (by kernel_rfl) (by first | omega | (dsimp only; done) | (dsimp only; omega))), trivial⟩ ⟨h, (PH.le_refl _), G, (by omega), (by simp)⟩ ?_
  rintro k w5 ⟨h5, l5, G5, hk, hn⟩
  try dsimp only at *
  refine CW.seq ?_
  refine CW.region ?_
  refine WL.q (.bool (decide ((k : Int) < (xs.length : Int)))) (by kernel_rfl) rfl (by kernel_rfl) (by kernel_rfl) ?_
  refine WL.nil ?_
  refine EX.then_code ?_
  refine CW.seq ?_
  refine CW.cond (decide ((k : Int) < (xs.length : Int))) (by kernel_rfl) (by kernel_rfl) (fun c6 => ?_) (fun c6 => ?_)
  ·
    skip
    have d7 := of_decide_eq_true c6
    refine CW.skip ?_
    refine EX.then_code ?_
    refine CW.seq ?_
    refine CW.block ?_
    refine CW.seq ?_
    refine CW.region ?_
    refine WL.q (.int .i64 (k : Int)) (by kernel_rfl) rfl (by kernel_rfl) (by kernel_rfl) ?_
    refine WL.q (.int .i64 (k : Int)) (by kernel_rfl) rfl (by kernel_rfl) (by kernel_rfl) ?_
    refine WL.nil ?_
    refine EX.then_code ?_
    refine CW.seq ?_
    refine CW.region ?_
    refine WL.q (.func (.func fid) #[] caps) (by kernel_rfl) rfl (by kernel_rfl) (by kernel_rfl) ?_
    refine WL.q (.slice a xs.length c) (by kernel_rfl) rfl (by kernel_rfl) (by kernel_rfl) ?_
    refine WL.q (.int .i64 (k : Int)) (by kernel_rfl) rfl (by kernel_rfl) (by kernel_rfl) ?_
    refine WL.q (eptr a (k * intE.sz)) (by kernel_rfl) rfl (by kernel_rfl) (q_indexAddr (i := k) (E := intE) (xs := xs) (e := 3) (c := c) (k := .i64) (m := xs.length) rfl rfl (by kernel_rfl) (by kernel_rfl) (by kernel_rfl) (Hr _ _ _ l5 G5 rfl) (by omega)) ?_
    refine WL.q (.int .i64 (xs.getD k intE.dflt)) (by kernel_rfl) rfl (by kernel_rfl) (q_load_e (i := k) (k := 0) (E := intE) rfl (by kernel_rfl) (by kernel_rfl) (Hr _ _ _ l5 G5 rfl) (by omega) (by decide) (by kernel_rfl)) ?_
    refine WL.callv (f := fid) (caps := caps) (args := #[(.int .i64 (xs.getD k intE.dflt))]) he rfl (by kernel_rfl) (by kernel_rfl) (by kernel_rfl) rfl (by kernel_rfl) (hf (xs.getD k intE.dflt) (getD_mem (by omega)) w5 h5 M l5 G5 rfl) (Ret.elim ?_)
    rintro w8 h8 _ l8 G8 rfl
    refine WL.nil ?_
    refine EX.then_code ?_
    refine CW.cond (p (xs.getD k intE.dflt)) (by kernel_rfl) (by kernel_rfl) (fun c9 => ?_) (fun c9 => ?_)
    ·
      skip
      refine CW.seq ?_
      refine CW.region ?_
      refine WL.q (.int .i64 (k : Int)) (by kernel_rfl) rfl (by kernel_rfl) (by kernel_rfl) ?_
      refine WL.q (.int .i64 (k : Int)) (by kernel_rfl) rfl (by kernel_rfl) (by kernel_rfl) ?_
      refine WL.nil ?_
      refine EX.then_code ?_
      refine CW.ret ?_
      refine EX.ret_block ?_
      refine EX.ret_then ?_
      refine EX.ret_then ?_
      refine EX.ret_block ?_
      refine EX.ret_then ?_
      refine EX.ret1 (v := (.int .i64 (k : Int))) rfl (by kernel_rfl) ?_
      exact Ret.mk (l5.trans l8) G8 (congrArg (Value.int .i64) ((idxF_some (d := intE.dflt) (by omega) hn (by assumption)).symm))
    ·
      skip
      refine CW.skip ?_
      refine EX.in_block ?_
      refine EX.then_code ?_
      refine CW.region ?_
      refine WL.q (.int .i64 ((k + 1 : Nat) : Int)) (by kernel_rfl) rfl (by kernel_rfl) (q_int (x := IntKind.i64.wrap ((k : Int) + 1)) (by kernel_rfl) (wrap_to (by omega) (by omega) (by omega))) ?_
      refine WL.q (.int .i64 ((k + 1 : Nat) : Int)) (by kernel_rfl) rfl (by kernel_rfl) (by kernel_rfl) ?_
      refine WL.nil ?_
      exact EX.then_loop (k + 1) ⟨(by kernel_rfl), (by kernel_rfl), (by kernel_rfl), (lk_int (x := ((k + 1 : Nat) : Int)) (by kernel_rfl) (by first | omega | (dsimp only; done) | (dsimp only; omega))), trivial⟩ ⟨h8, (l5.trans l8), G8, (by omega), (fun j hj => by rcases Nat.lt_or_ge j k with q | q; (exact hn j q); (obtain rfl : j = k := by omega); assumption)⟩ (by first | omega | (dsimp only; omega))
  ·
    skip
    have d12 := of_decide_eq_false c6
    refine CW.exit ?_
    refine EX.exit_then ?_
    refine EX.exit_then ?_
    refine EX.exit_here ?_
    refine EX.then_code ?_
    refine CW.seq ?_
    refine CW.region ?_
    refine WL.q (.int .i64 (-1)) (by kernel_rfl) rfl (by kernel_rfl) (by kernel_rfl) ?_
    refine WL.nil ?_
    refine EX.then_code ?_
    refine CW.ret ?_
    refine EX.ret1 (v := (.int .i64 (-1))) rfl (by kernel_rfl) ?_
    exact Ret.mk l5 G5 (congrArg (Value.int .i64) ((idxF_none (d := intE.dflt) (fun j hj => hn j (by omega))).symm))

theorem del_spec {K : Key} {w : World} {h M : PH} (G : Wld K w h M) {M0 : PH} {a : Option Addr} {xs : List Int} {c : Nat} (own : Own 3 intE M0 M a c xs) (hb : xs.length ≤ 4000000) (fid : FuncId) (caps : Array Value) (p : Int → Bool) (he : Enters Try.prog fid)
    (hf : ∀ x ∈ xs, ∀ w' h' M', PH.le h h' → Wld K w' h' M' → Calls Try.prog fid (#[.int .i64 x] ++ caps) w' (Ret K h' M' fun _ v => v = .bool (p x))) :
    Calls Try.prog 22 #[.slice a xs.length c, .func (.func fid) #[] caps] w (RetM K h fun h' M' v => v = .slice a (xs.filter fun x => !p x).length c ∧ Own 3 intE M0 M' a c (xs.filter fun x => !p x)) := by
  refine enter (l := [(.slice a xs.length c), (.func (.func fid) #[] caps)]) Try.func22 rfl Try.ntmps22 (Nat.le_of_ble_eq_true rfl) ?_
  simp only [params]
  refine CW.seq ?_
  refine CW.region ?_
  refine WL.q (.slice none 0 0) (by kernel_rfl) rfl (by kernel_rfl) (by kernel_rfl) ?_
  refine WL.nil ?_
  refine EX.then_code ?_
  refine CW.seq ?_
  refine CW.region ?_
  refine WL.q (.slice a xs.length c) (by kernel_rfl) rfl (by kernel_rfl) (by kernel_rfl) ?_
  refine WL.q (.func (.func fid) #[] caps) (by kernel_rfl) rfl (by kernel_rfl) (by kernel_rfl) ?_
  refine WL.call (by kernel_rfl) rfl (by kernel_rfl) (by kernel_rfl) (idx_spec (c := c) G (fun w' h' M' hl g' hM => (hM ▸ own.reads).mono g'.own) hb fid caps p he (fun x hx w' h' M' hl g' _ => hf x hx w' h' M' hl g')) (Ret.elim ?_)
  rintro w13 h13 _ l13 G13 rfl
  have hbd_ := idxF_bd p xs
  refine WL.q (.int .i64 (idxF p xs)) (by kernel_rfl) rfl (by kernel_rfl) (by kernel_rfl) ?_
  refine WL.nil ?_
  refine EX.then_code ?_
  refine CW.seq ?_
  refine CW.seq ?_
  refine CW.region ?_
  refine WL.q (.int .i64 (idxF p xs)) (by kernel_rfl) rfl (by kernel_rfl) (by kernel_rfl) ?_
  refine WL.q (.bool (((idxF p xs) : Int) == (-1))) (by kernel_rfl) rfl (by kernel_rfl) (by kernel_rfl) ?_
  refine WL.nil ?_
  refine EX.then_code ?_
  refine CW.cond (((idxF p xs) : Int) == (-1)) (by kernel_rfl) (by kernel_rfl) (fun c14 => ?_) (fun c14 => ?_)
  ·
    skip
    have d15 := eq_of_beq c14
    refine CW.seq ?_
    refine CW.region ?_
    refine WL.q (.slice a xs.length c) (by kernel_rfl) rfl (by kernel_rfl) (by kernel_rfl) ?_
    refine WL.q (.slice a xs.length c) (by kernel_rfl) rfl (by kernel_rfl) (by kernel_rfl) ?_
    refine WL.nil ?_
    refine EX.then_code ?_
    refine CW.ret ?_
    refine EX.ret_then ?_
    refine EX.ret1 (v := (.slice a xs.length c)) rfl (by kernel_rfl) ?_
    rcases idxF_cases p xs intE.dflt with ⟨q_, hall⟩ | ⟨k0, hk0, ek0, _⟩
    · exact RetM.mk ((PH.le_refl _).trans l13) G13 ⟨by rw [filter_none hall], by rw [filter_none hall]; exact own⟩
    · exact absurd (ek0.symm.trans (by assumption)) (by omega)
  ·
    skip
    have d16 := ne_of_beq_false c14
    refine CW.skip ?_
    refine EX.then_code ?_
    refine CW.seq ?_
    refine CW.seq ?_
    refine CW.region ?_
    refine WL.q (.int .i64 (idxF p xs)) (by kernel_rfl) rfl (by kernel_rfl) (by kernel_rfl) ?_
    refine WL.q (.int .i64 ((idxF p xs) + 1)) (by kernel_rfl) rfl (by kernel_rfl) (q_int (x := IntKind.i64.wrap ((idxF p xs) + 1)) (by kernel_rfl) (wrap_to (by omega) (by omega) (by omega))) ?_
    refine WL.q (.int .i64 ((idxF p xs) + 1)) (by kernel_rfl) rfl (by kernel_rfl) (by kernel_rfl) ?_
    refine WL.nil ?_
    refine EX.then_code ?_
    refine CW.block ?_
    have q_ : ∃ k, k < xs.length ∧ idxF p xs = (k : Int) ∧ p (xs.getD k intE.dflt) = true ∧ ∀ j < k, p (xs.getD j intE.dflt) = false := by
      rcases idxF_cases p xs intE.dflt with ⟨q_, _⟩ | q_
      · exact absurd q_ (by assumption)
      · exact q_
    obtain ⟨k0, hk0, ek0, pk0, nk0⟩ := q_
    have st0 := DelAt.start hk0 pk0 nk0
    refine CW.loop (β := Nat × Nat × List Int) (fun x_ => [(0, (.slice a xs.length c)), (1, (.func (.func fid) #[] caps)), (4, (.slice none 0 0)), (5, (.int .i64 (x_.1 : Int))), (6, (.int .i64 (x_.2.1 : Int)))]) (fun x_ w_ => ∃ h_ Mxs_, (PH.le h13 h_) ∧ (Wld K w_ h_ Mxs_) ∧ (Own 3 intE M0 Mxs_ a c x_.2.2) ∧ (DelAt p xs x_.1 x_.2.1 x_.2.2)) (fun x_ => xs.length - x_.2.1) ⟨k0, k0 + 1, xs⟩ ⟨(by kernel_rfl), (by kernel_rfl), (by kernel_rfl), (lk_int (x := (idxF p xs)) (by kernel_rfl) (by first | omega | (dsimp only; done) | (dsimp only; omega))), (lk_int (x := (idxF p xs) + 1) (by kernel_rfl) (by first | omega | (dsimp only; done) | (dsimp only; omega))), trivial⟩ ⟨h13, M, (PH.le_refl _), G13, own, st0⟩ ?_
    rintro ⟨i, j, ys⟩ w17 ⟨h17, Mxs_17, l17, G17, oxs17, hd⟩
    try dsimp only at *
    have hdl := hd.len
    have hdj := hd.le
    have hdi := hd.lt
    refine CW.seq ?_
    refine CW.seq ?_
    refine CW.region ?_
    refine WL.q (.int .i64 (j : Int)) (by kernel_rfl) rfl (by kernel_rfl) (by kernel_rfl) ?_
    refine WL.q (.slice a xs.length c) (by kernel_rfl) rfl (by kernel_rfl) (by kernel_rfl) ?_
    refine WL.q (.int .i64 (xs.length : Int)) (by kernel_rfl) rfl (by kernel_rfl) (by kernel_rfl) ?_
    refine WL.q (.bool (decide ((j : Int) < (xs.length : Int)))) (by kernel_rfl) rfl (by kernel_rfl) (by kernel_rfl) ?_
    refine WL.nil ?_
    refine EX.then_code ?_
    refine CW.cond (decide ((j : Int) < (xs.length : Int))) (by kernel_rfl) (by kernel_rfl) (fun c18 => ?_) (fun c18 => ?_)
    ·
      skip
      have d19 := of_decide_eq_true c18
      refine CW.skip ?_
      refine EX.then_code ?_
      refine CW.seq ?_
      refine CW.block ?_
      refine CW.seq ?_
      refine CW.region ?_
      refine WL.q (.slice a xs.length c) (by kernel_rfl) rfl (by kernel_rfl) (by kernel_rfl) ?_
      refine WL.q (.int .i64 (j : Int)) (by kernel_rfl) rfl (by kernel_rfl) (by kernel_rfl) ?_
      refine WL.q (eptr a (j * intE.sz)) (by kernel_rfl) rfl (by kernel_rfl) (q_indexAddr (i := j) (E := intE) (xs := ys) (e := 3) (c := c) (k := .i64) (m := xs.length) (by omega) rfl (by kernel_rfl) (by kernel_rfl) (by kernel_rfl) (oxs17.reads.mono ((PH.le_refl _).trans G17.own)) (by omega)) ?_
      refine WL.q (.int .i64 (ys.getD j intE.dflt)) (by kernel_rfl) rfl (by kernel_rfl) (q_load_e (i := j) (k := 0) (E := intE) rfl (by kernel_rfl) (by kernel_rfl) (oxs17.reads.mono ((PH.le_refl _).trans G17.own)) (by omega) (by decide) (by kernel_rfl)) ?_
      refine WL.q (.int .i64 (ys.getD j intE.dflt)) (by kernel_rfl) rfl (by kernel_rfl) (by kernel_rfl) ?_
      refine WL.nil ?_
      refine EX.then_code ?_
      refine CW.seq ?_
      refine CW.region ?_
      refine WL.q (.func (.func fid) #[] caps) (by kernel_rfl) rfl (by kernel_rfl) (by kernel_rfl) ?_
      refine WL.q (.int .i64 (ys.getD j intE.dflt)) (by kernel_rfl) rfl (by kernel_rfl) (by kernel_rfl) ?_
      have hmem : ys.getD j intE.dflt ∈ xs := by rw [hd.get (by omega)]; exact getD_mem (by omega)
      refine WL.callv (f := fid) (caps := caps) (args := #[(.int .i64 (ys.getD j intE.dflt))]) he rfl (by kernel_rfl) (by kernel_rfl) (by kernel_rfl) rfl (by kernel_rfl) (hf (ys.getD j intE.dflt) hmem w17 h17 Mxs_17 (((PH.le_refl _).trans l13).trans l17) G17) (Ret.elim ?_)
      rintro w20 h20 _ l20 G20 rfl
      refine WL.q (.bool (!(p (ys.getD j intE.dflt)))) (by kernel_rfl) rfl (by kernel_rfl) (by kernel_rfl) ?_
      refine WL.nil ?_
      refine EX.then_code ?_
      refine CW.cond (!(p (ys.getD j intE.dflt))) (by kernel_rfl) (by kernel_rfl) (fun c21 => ?_) (fun c21 => ?_)
      ·
        skip
        have d22 := not_true c21
        refine CW.seq ?_
        refine CW.region ?_
        refine WL.q (.slice a xs.length c) (by kernel_rfl) rfl (by kernel_rfl) (by kernel_rfl) ?_
        refine WL.q (.int .i64 (i : Int)) (by kernel_rfl) rfl (by kernel_rfl) (by kernel_rfl) ?_
        refine WL.q (.int .i64 (ys.getD j intE.dflt)) (by kernel_rfl) rfl (by kernel_rfl) (by kernel_rfl) ?_
        refine WL.q (eptr a (i * intE.sz)) (by kernel_rfl) rfl (by kernel_rfl) (q_indexAddr (i := i) (E := intE) (xs := ys) (e := 3) (c := c) (k := .i64) (m := xs.length) (by omega) rfl (by kernel_rfl) (by kernel_rfl) (by kernel_rfl) (oxs17.reads.mono ((PH.le_refl _).trans G20.own)) (by omega)) ?_
        refine WL.storeE (v := (.int .i64 (ys.getD j intE.dflt))) (xs := ys) (i := i) (ys.getD j intE.dflt) G20 oxs17 (by first | omega | (simp only [List.length_set]; omega)) rfl (by kernel_rfl) (by kernel_rfl) rfl (by kernel_rfl) (by kernel_rfl) (by kernel_rfl) (by kernel_rfl) ?_
        intro w24 M24 G24 o24
        refine WL.nil ?_
        refine EX.then_code ?_
        refine CW.region ?_
        refine WL.q (.int .i64 (i : Int)) (by kernel_rfl) rfl (by kernel_rfl) (by kernel_rfl) ?_
        refine WL.q (.int .i64 ((i + 1 : Nat) : Int)) (by kernel_rfl) rfl (by kernel_rfl) (q_int (x := IntKind.i64.wrap ((i : Int) + 1)) (by kernel_rfl) (wrap_to (by omega) (by omega) (by omega))) ?_
        refine WL.q (.int .i64 ((i + 1 : Nat) : Int)) (by kernel_rfl) rfl (by kernel_rfl) (by kernel_rfl) ?_
        refine WL.nil ?_
        refine EX.in_block ?_
        refine EX.then_code ?_
        refine CW.region ?_
        refine WL.q (.int .i64 (j : Int)) (by kernel_rfl) rfl (by kernel_rfl) (by kernel_rfl) ?_
        refine WL.q (.int .i64 ((j + 1 : Nat) : Int)) (by kernel_rfl) rfl (by kernel_rfl) (q_int (x := IntKind.i64.wrap ((j : Int) + 1)) (by kernel_rfl) (wrap_to (by omega) (by omega) (by omega))) ?_
        refine WL.q (.int .i64 ((j + 1 : Nat) : Int)) (by kernel_rfl) rfl (by kernel_rfl) (by kernel_rfl) ?_
        refine WL.nil ?_
        have hd2 := hd.keep (d := intE.dflt) (by omega) (not_true c21)
        exact EX.then_loop ⟨(i + 1 : Nat), j + 1, (ys.set i (ys.getD j intE.dflt))⟩ ⟨(by kernel_rfl), (by kernel_rfl), (by kernel_rfl), (by kernel_rfl), (lk_int (x := ((j + 1 : Nat) : Int)) (by kernel_rfl) (by first | omega | (dsimp only; done) | (dsimp only; omega))), trivial⟩ ⟨h20, M24, (l17.trans l20), G24, o24, hd2⟩ (by first | omega | (dsimp only; omega))
      ·
        skip
        have d25 := not_false c21
        refine CW.skip ?_
        refine EX.in_block ?_
        refine EX.then_code ?_
        refine CW.region ?_
        refine WL.q (.int .i64 (j : Int)) (by kernel_rfl) rfl (by kernel_rfl) (by kernel_rfl) ?_
        refine WL.q (.int .i64 ((j + 1 : Nat) : Int)) (by kernel_rfl) rfl (by kernel_rfl) (q_int (x := IntKind.i64.wrap ((j : Int) + 1)) (by kernel_rfl) (wrap_to (by omega) (by omega) (by omega))) ?_
        refine WL.q (.int .i64 ((j + 1 : Nat) : Int)) (by kernel_rfl) rfl (by kernel_rfl) (by kernel_rfl) ?_
        refine WL.nil ?_
        have hd2 := hd.drop (d := intE.dflt) (by omega) (not_false c21)
        exact EX.then_loop ⟨i, j + 1, ys⟩ ⟨(by kernel_rfl), (by kernel_rfl), (by kernel_rfl), (by kernel_rfl), (lk_int (x := ((j + 1 : Nat) : Int)) (by kernel_rfl) (by first | omega | (dsimp only; done) | (dsimp only; omega))), trivial⟩ ⟨h20, Mxs_17, (l17.trans l20), G20, oxs17, hd2⟩ (by first | omega | (dsimp only; omega))
    ·
      skip
      have d27 := of_decide_eq_false c18
      refine CW.exit ?_
      refine EX.exit_then ?_
      refine EX.exit_then ?_
      refine EX.exit_here ?_
      refine EX.then_code ?_
      refine CW.seq ?_
      refine CW.region ?_
      refine WL.q (.slice a xs.length c) (by kernel_rfl) rfl (by kernel_rfl) (by kernel_rfl) ?_
      refine WL.q (.int .i64 (i : Int)) (by kernel_rfl) rfl (by kernel_rfl) (by kernel_rfl) ?_
      refine WL.q (.slice (aft a c i 1) (xs.length - i) (c - i)) (by kernel_rfl) rfl (by kernel_rfl) (q_from (e := 3) (sz := 1) (len := xs.length) (cap := c) (lo := i) (k := .i64) rfl (by kernel_rfl) (by kernel_rfl) (by kernel_rfl) (by omega)) ?_
      refine WL.clearTail (xs := ys) (i := i) (cap := c) (e := 3) (z := (.int .i64 0)) G17 oxs17 (by omega) rfl (by kernel_rfl) (by kernel_rfl) (by kernel_rfl) (by simp [Value.oneCell', Value.cells]) (by kernel_rfl) rfl (by kernel_rfl) ((show _ = Value.slice (aft a c i 1) (xs.length - i) (c - i) by kernel_rfl).trans (by rw [show ys.length = xs.length by omega]; rfl)) ?_
      intro w28 M28 G28 o28
      refine WL.nil ?_
      refine EX.then_code ?_
      refine CW.seq ?_
      refine CW.region ?_
      refine WL.q (.slice a xs.length c) (by kernel_rfl) rfl (by kernel_rfl) (by kernel_rfl) ?_
      refine WL.q (.int .i64 (i : Int)) (by kernel_rfl) rfl (by kernel_rfl) (by kernel_rfl) ?_
      refine WL.q (.slice a i c) (by kernel_rfl) rfl (by kernel_rfl) (q_upto (e := 3) (sz := 1) (len := xs.length) (cap := c) (k := .i64) rfl (by kernel_rfl) (by kernel_rfl) (by kernel_rfl) (by have q_ := o28.cap_le; first | omega | (simp only [List.length_take] at q_; omega))) ?_
      refine WL.q (.slice a i c) (by kernel_rfl) rfl (by kernel_rfl) (by kernel_rfl) ?_
      refine WL.nil ?_
      refine EX.then_code ?_
      refine CW.ret ?_
      refine EX.ret1 (v := (.slice a i c)) rfl (by kernel_rfl) ?_
      have hfin := hd.done (by omega)
      have hlen : (xs.filter fun x => !p x).length = i := by rw [← hfin, List.length_take]; omega
      exact RetM.mk (((PH.le_refl _).trans l13).trans l17) G28 ⟨by rw [hlen], hfin ▸ o28⟩
end Go.Proofs
