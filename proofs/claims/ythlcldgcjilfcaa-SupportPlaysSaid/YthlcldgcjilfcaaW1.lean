import Derived.Test.YthlcldgcjilfcaaTa
namespace Go.Proofs
open Go Go.Wk
/-- What stands by what, as the law has it. -/
structure StandD where
  fact : Int
  free : Bool
  a : Option Addr
  ws : List WhyD
  c : Nat
def standE : Enc StandD := ⟨3, fun t => [.int .i64 t.fact, .bool t.free, .slice t.a t.ws.length t.c], ⟨0, false, none, [], 0⟩, by decide, fun _ => rfl, fun _ v hv => by
  simp only [List.mem_cons, List.not_mem_nil, or_false] at hv; rcases hv with rfl | rfl | rfl <;> rfl⟩
def standG (h : PH) (s : StandD) : Prop := RS h whyE s.a s.ws ∧ (∀ w ∈ s.ws, whyG h w) ∧ s.ws.length ≤ s.c
theorem standG.mono {h h' : PH} (hl : PH.le h h') (s : StandD) (q : standG h s) : standG h' s := ⟨RS.mono q.1 hl, fun w hw => whyG.mono hl w (q.2.1 w hw), q.2.2⟩
def absS (s : StandD) : RowT := (s.fact, s.free, s.ws.map datW)
theorem same_self (x : WhyD) : sameW x x = true := by simp [sameW]
def rowsW (a b : List WhyD) : Bool := decide (a.map datW = b.map datW)
theorem rowsW_t {xs ys : List WhyD} (hl : xs.length = ys.length) (h : ∀ j < xs.length, sameW (xs.getD j whyE.dflt) (ys.getD j whyE.dflt) = true) : rowsW xs ys = true := by
  refine decide_eq_true (List.ext_getElem (by simpa using hl) fun j h1 h2 => ?_)
  have q1 : j < xs.length := by simpa using h1
  have q2 : j < ys.length := by simpa using h2
  have := sameW_iff.1 (h j q1)
  simpa [List.getD, q1, q2] using this
theorem rowsW_f {xs ys : List WhyD} (h : xs.length ≠ ys.length ∨ ∃ k, k < xs.length ∧ sameW (xs.getD k whyE.dflt) (ys.getD k whyE.dflt) = false) : rowsW xs ys = false := by
  refine decide_eq_false fun e => ?_
  rcases h with h | ⟨k, hk, h⟩
  · exact h (by simpa using congrArg List.length e)
  · have hl : xs.length = ys.length := by simpa using congrArg List.length e
    have h2 := congrArg (fun l => l.getD k (datW whyE.dflt)) e
    simp only [getD_map datW whyE.dflt _ hk, getD_map datW whyE.dflt _ (show k < ys.length by omega)] at h2
    exact sameW_ne.1 h h2
/-- The law's order of numbers: which of the two is less. -/
def cmpL : List Int → List Int → Int
  | [], [] => 0
  | [], _ :: _ => -1
  | _ :: _, [] => 1
  | x :: r, y :: s => if x < y then -1 else if x > y then 1 else cmpL r s
theorem cmpL_zero : ∀ {xs ys : List Int}, cmpL xs ys = 0 ↔ xs = ys
  | [], [] => by simp [cmpL]
  | [], _ :: _ => by simp [cmpL]
  | _ :: _, [] => by simp [cmpL]
  | x :: r, y :: s => by
    unfold cmpL
    split
    · simp; omega
    · split
      · simp; omega
      · rw [cmpL_zero]
        have : x = y := by omega
        simp [this]
theorem cmpL_drop {xs ys : List Int} {k : Nat} (h1 : k < xs.length) (h2 : k < ys.length) (e : cmpL xs ys = cmpL (xs.drop k) (ys.drop k)) :
    cmpL xs ys = if xs.getD k 0 < ys.getD k 0 then -1 else if xs.getD k 0 > ys.getD k 0 then 1 else cmpL (xs.drop (k + 1)) (ys.drop (k + 1)) := by
  rw [e, List.drop_eq_getElem_cons h1, List.drop_eq_getElem_cons h2]
  have e1 : xs.getD k 0 = xs[k] := by simp [List.getD, h1]
  have e2 : ys.getD k 0 = ys[k] := by simp [List.getD, h2]
  rw [e1, e2]; rfl
theorem cmpL_end {xs ys : List Int} {k : Nat} (h : ¬ (k < xs.length ∧ k < ys.length)) (h1 : k ≤ xs.length) (h2 : k ≤ ys.length) (e : cmpL xs ys = cmpL (xs.drop k) (ys.drop k)) :
    cmpL xs ys = if xs.length < ys.length then -1 else if xs.length > ys.length then 1 else 0 := by
  rw [e]
  rcases Nat.lt_or_ge k xs.length with q | q
  · have h3 : k = ys.length := by omega
    rw [List.drop_eq_getElem_cons q, List.drop_eq_nil_of_le (by omega : ys.length ≤ k), if_neg (by omega), if_pos (by omega)]; rfl
  · rw [List.drop_eq_nil_of_le q]
    rcases Nat.lt_or_ge k ys.length with q2 | q2
    · rw [List.drop_eq_getElem_cons q2, if_pos (by omega)]; rfl
    · rw [List.drop_eq_nil_of_le q2, if_neg (by omega), if_neg (by omega)]; rfl

theorem cmpL_spec {K : Key} {w : World} {h M : PH} (G : Wld K w h M) {ax ay : Option Addr} {xs ys : List Int} {cx cy : Nat} (Hx : RS h intE ax xs) (Hy : RS h intE ay ys) (hb : xs.length ≤ 1000000) :
    Calls Try.prog 17 #[.slice ax xs.length cx, .slice ay ys.length cy] w (Ret K h M fun _ v => v = .int .i64 (cmpL xs ys)) := by
  refine enter (l := [(.slice ax xs.length cx), (.slice ay ys.length cy)]) Try.func17 rfl Try.ntmps17 (Nat.le_of_ble_eq_true rfl) ?_
  simp only [params]
  refine CW.seq ?_
  refine CW.region ?_
  refine WL.q (.int .i64 0) (by kernel_rfl) rfl (by kernel_rfl) (by kernel_rfl) ?_
  refine WL.nil ?_
  refine EX.then_code ?_
  refine CW.seq ?_
  refine CW.seq ?_
  refine CW.region ?_
  refine WL.q (.int .i64 0) (by kernel_rfl) rfl (by kernel_rfl) (by kernel_rfl) ?_
  refine WL.nil ?_
  refine EX.then_code ?_
  refine CW.block ?_
  refine CW.loop (β := Nat) (fun x_ => [(0, (.slice ax xs.length cx)), (1, (.slice ay ys.length cy)), (5, (.int .i64 (x_ : Int)))]) (fun x_ w_ => ∃ h_, (PH.le h h_) ∧ (Wld K w_ h_ M) ∧ (x_ ≤ xs.length) ∧ (x_ ≤ ys.length) ∧ (cmpL xs ys = cmpL (xs.drop x_) (ys.drop x_))) (fun x_ => xs.length - x_) 0 ⟨(by kernel_rfl), (by kernel_rfl), (lk_int (x := 0) (by kernel_rfl) (by first | omega | (dsimp only; omega) | rfl | (dsimp only; rfl))), trivial⟩ ⟨h, (PH.le_refl _), G, (by first | omega | assumption | (dsimp only [List.length_nil, List.length_append, List.length_cons]; omega)), (by first | omega | assumption | (dsimp only [List.length_nil, List.length_append, List.length_cons]; omega)), rfl⟩ ?_
  rintro k w1 ⟨h1, l1, G1, hk, hk2, he⟩
  try dsimp only at *
  refine CW.seq ?_
  refine CW.seq ?_
  refine CW.region ?_
  refine WL.q (.int .i64 (k : Int)) (by kernel_rfl) rfl (by kernel_rfl) (by kernel_rfl) ?_
  refine WL.q (.slice ax xs.length cx) (by kernel_rfl) rfl (by kernel_rfl) (by kernel_rfl) ?_
  refine WL.q (.int .i64 (xs.length : Int)) (by kernel_rfl) rfl (by kernel_rfl) (by kernel_rfl) ?_
  refine WL.q (.bool (decide ((k : Int) < (xs.length : Int)))) (by kernel_rfl) rfl (by kernel_rfl) (by kernel_rfl) ?_
  refine WL.q (.bool (decide ((k : Int) < (xs.length : Int)))) (by kernel_rfl) rfl (by kernel_rfl) (by kernel_rfl) ?_
  rcases bool_cases (decide ((k : Int) < (xs.length : Int))) with c2 | c2
  ·
    skip
    have d3 := of_decide_eq_true c2
    refine WL.know 10 (.bool true) (x := .bool (decide ((k : Int) < (xs.length : Int)))) (by kernel_rfl) (congrArg Value.bool c2) ?_
    refine WL.q (.int .i64 (k : Int)) (by kernel_rfl) rfl (by kernel_rfl) (by kernel_rfl) ?_
    refine WL.q (.slice ay ys.length cy) (by kernel_rfl) rfl (by kernel_rfl) (by kernel_rfl) ?_
    refine WL.q (.int .i64 (ys.length : Int)) (by kernel_rfl) rfl (by kernel_rfl) (by kernel_rfl) ?_
    refine WL.q (.bool (decide ((k : Int) < (ys.length : Int)))) (by kernel_rfl) rfl (by kernel_rfl) (by kernel_rfl) ?_
    refine WL.q (.bool (decide ((k : Int) < (ys.length : Int)))) (by kernel_rfl) rfl (by kernel_rfl) (by kernel_rfl) ?_
    refine WL.nil ?_
    refine EX.then_code ?_
    refine CW.cond (decide ((k : Int) < (ys.length : Int))) (by kernel_rfl) (by kernel_rfl) (fun c4 => ?_) (fun c4 => ?_)
    ·
      skip
      have d5 := of_decide_eq_true c4
      refine CW.skip ?_
      refine EX.then_code ?_
      refine CW.seq ?_
      refine CW.block ?_
      refine CW.seq ?_
      refine CW.seq ?_
      refine CW.draw (by kernel_rfl) [(3, fun w_ => RS (PH.all w_) intE ax xs), (7, fun w_ => RS (PH.all w_) intE ay ys)] ?_
      refine DW.take (T := fun _ => True) 0 (.slice ax xs.length cx) rfl (by kernel_rfl) rfl (by kernel_rfl) (.inl fun _ => trivial) (by kernel_rfl) (Deaf.thens (Deaf.thens (Deaf.block (Deaf.thens (Deaf.thens (Deaf.block (Deaf.thens (Deaf.body RetM.not_panicked)))))))) (fun w_ _ => (by kernel_rfl)) trivial ?_
      refine DW.take (T := fun _ => True) 1 (.int .i64 (k : Int)) rfl (by kernel_rfl) rfl (by kernel_rfl) (.inl fun _ => trivial) (by kernel_rfl) (Deaf.thens (Deaf.thens (Deaf.block (Deaf.thens (Deaf.thens (Deaf.block (Deaf.thens (Deaf.body RetM.not_panicked)))))))) (fun w_ _ => (by kernel_rfl)) trivial ?_
      refine DW.take (T := fun _ => True) 2 (eptr ax (k * intE.sz)) rfl (by kernel_rfl) rfl (by kernel_rfl) (.inl fun _ => trivial) (by kernel_rfl) (Deaf.thens (Deaf.thens (Deaf.block (Deaf.thens (Deaf.thens (Deaf.block (Deaf.thens (Deaf.body RetM.not_panicked)))))))) (fun w_ _ => (q_indexAddr (i := k) (E := intE) (xs := xs) (e := 3) (c := cx) (k := .i64) (m := xs.length) rfl rfl (by kernel_rfl) (by kernel_rfl) (by kernel_rfl) (Hx.mono (l1.trans (G1.drew).imm)) (by omega))) trivial ?_
      refine DW.take (T := fun w_ => RS (PH.all w_) intE ax xs) 3 (.int .i64 (xs.getD k intE.dflt)) rfl (by kernel_rfl) rfl (by kernel_rfl) (.inr (by first | exact .head _ | exact .tail _ (.head _) | exact .tail _ (.tail _ (.head _)) | exact .tail _ (.tail _ (.tail _ (.head _))) | simp)) (by kernel_rfl) (Deaf.thens (Deaf.thens (Deaf.block (Deaf.thens (Deaf.thens (Deaf.block (Deaf.thens (Deaf.body RetM.not_panicked)))))))) (fun w_ T_ => (q_load_e (i := k) (k := 0) (E := intE) rfl (by kernel_rfl) (by kernel_rfl) T_ (by omega) (by decide) (by kernel_rfl))) (Hx.mono (l1.trans (G1.drew).imm)) ?_
      refine DW.take (T := fun _ => True) 4 (.slice ay ys.length cy) rfl (by kernel_rfl) rfl (by kernel_rfl) (.inl fun _ => trivial) (by kernel_rfl) (Deaf.thens (Deaf.thens (Deaf.block (Deaf.thens (Deaf.thens (Deaf.block (Deaf.thens (Deaf.body RetM.not_panicked)))))))) (fun w_ _ => (by kernel_rfl)) trivial ?_
      refine DW.take (T := fun _ => True) 5 (.int .i64 (k : Int)) rfl (by kernel_rfl) rfl (by kernel_rfl) (.inl fun _ => trivial) (by kernel_rfl) (Deaf.thens (Deaf.thens (Deaf.block (Deaf.thens (Deaf.thens (Deaf.block (Deaf.thens (Deaf.body RetM.not_panicked)))))))) (fun w_ _ => (by kernel_rfl)) trivial ?_
      refine DW.take (T := fun _ => True) 6 (eptr ay (k * intE.sz)) rfl (by kernel_rfl) rfl (by kernel_rfl) (.inl fun _ => trivial) (by kernel_rfl) (Deaf.thens (Deaf.thens (Deaf.block (Deaf.thens (Deaf.thens (Deaf.block (Deaf.thens (Deaf.body RetM.not_panicked)))))))) (fun w_ _ => (q_indexAddr (i := k) (E := intE) (xs := ys) (e := 3) (c := cy) (k := .i64) (m := ys.length) rfl rfl (by kernel_rfl) (by kernel_rfl) (by kernel_rfl) (Hy.mono (l1.trans (G1.drew).imm)) (by omega))) trivial ?_
      refine DW.take (T := fun w_ => RS (PH.all w_) intE ay ys) 7 (.int .i64 (ys.getD k intE.dflt)) rfl (by kernel_rfl) rfl (by kernel_rfl) (.inr (by first | exact .head _ | exact .tail _ (.head _) | exact .tail _ (.tail _ (.head _)) | exact .tail _ (.tail _ (.tail _ (.head _))) | simp)) (by kernel_rfl) (Deaf.thens (Deaf.thens (Deaf.block (Deaf.thens (Deaf.thens (Deaf.block (Deaf.thens (Deaf.body RetM.not_panicked)))))))) (fun w_ T_ => (q_load_e (i := k) (k := 0) (E := intE) rfl (by kernel_rfl) (by kernel_rfl) T_ (by omega) (by decide) (by kernel_rfl))) (Hy.mono (l1.trans (G1.drew).imm)) ?_
      refine DW.take (T := fun _ => True) 8 (.bool (decide ((xs.getD k intE.dflt) < (ys.getD k intE.dflt)))) rfl (by kernel_rfl) rfl (by kernel_rfl) (.inl fun _ => trivial) (by kernel_rfl) (Deaf.thens (Deaf.thens (Deaf.block (Deaf.thens (Deaf.thens (Deaf.block (Deaf.thens (Deaf.body RetM.not_panicked)))))))) (fun w_ _ => (by kernel_rfl)) trivial ?_
      refine DW.done (by kernel_rfl) ?_
      refine EX.then_code ?_
      refine CW.cond (decide ((xs.getD k intE.dflt) < (ys.getD k intE.dflt))) (by kernel_rfl) (by kernel_rfl) (fun c6 => ?_) (fun c6 => ?_)
      ·
        skip
        have d7 := of_decide_eq_true c6
        refine CW.seq ?_
        refine CW.region ?_
        refine WL.q (.int .i64 (-1)) (by kernel_rfl) rfl (by kernel_rfl) (by kernel_rfl) ?_
        refine WL.nil ?_
        refine EX.then_code ?_
        refine CW.ret ?_
        refine EX.ret_then ?_
        refine EX.ret_block ?_
        refine EX.ret_then ?_
        refine EX.ret_then ?_
        refine EX.ret_block ?_
        refine EX.ret_then ?_
        refine EX.ret1 (v := (.int .i64 (-1))) rfl (by kernel_rfl) ?_
        exact Ret.mk l1 (G1.drew) (by first | (have q_ := cmpL_drop (by omega) (by omega) he; rw [q_, if_pos (by assumption)]; done) | (have q_ := cmpL_drop (by omega) (by omega) he; rw [q_, if_neg (by assumption), if_pos (by assumption)]; done) | (have q_ := cmpL_end (by omega) (by omega) (by omega) he; rw [q_]; first | (rw [if_pos (by omega)]; done) | (rw [if_neg (by omega), if_pos (by omega)]; done) | (rw [if_neg (by omega), if_neg (by omega)]; done)))
      ·
        skip
        have d8 := of_decide_eq_false c6
        refine CW.skip ?_
        refine EX.then_code ?_
        refine CW.seq ?_
        refine CW.draw (by kernel_rfl) [(3, fun w_ => RS (PH.all w_) intE ax xs), (7, fun w_ => RS (PH.all w_) intE ay ys)] ?_
        refine DW.take (T := fun _ => True) 0 (.slice ax xs.length cx) rfl (by kernel_rfl) rfl (by kernel_rfl) (.inl fun _ => trivial) (by kernel_rfl) (Deaf.thens (Deaf.block (Deaf.thens (Deaf.thens (Deaf.block (Deaf.thens (Deaf.body RetM.not_panicked))))))) (fun w_ _ => (by kernel_rfl)) trivial ?_
        refine DW.take (T := fun _ => True) 1 (.int .i64 (k : Int)) rfl (by kernel_rfl) rfl (by kernel_rfl) (.inl fun _ => trivial) (by kernel_rfl) (Deaf.thens (Deaf.block (Deaf.thens (Deaf.thens (Deaf.block (Deaf.thens (Deaf.body RetM.not_panicked))))))) (fun w_ _ => (by kernel_rfl)) trivial ?_
        refine DW.take (T := fun _ => True) 2 (eptr ax (k * intE.sz)) rfl (by kernel_rfl) rfl (by kernel_rfl) (.inl fun _ => trivial) (by kernel_rfl) (Deaf.thens (Deaf.block (Deaf.thens (Deaf.thens (Deaf.block (Deaf.thens (Deaf.body RetM.not_panicked))))))) (fun w_ _ => (q_indexAddr (i := k) (E := intE) (xs := xs) (e := 3) (c := cx) (k := .i64) (m := xs.length) rfl rfl (by kernel_rfl) (by kernel_rfl) (by kernel_rfl) (Hx.mono (l1.trans ((G1.drew).drew).imm)) (by omega))) trivial ?_
        refine DW.take (T := fun w_ => RS (PH.all w_) intE ax xs) 3 (.int .i64 (xs.getD k intE.dflt)) rfl (by kernel_rfl) rfl (by kernel_rfl) (.inr (by first | exact .head _ | exact .tail _ (.head _) | exact .tail _ (.tail _ (.head _)) | exact .tail _ (.tail _ (.tail _ (.head _))) | simp)) (by kernel_rfl) (Deaf.thens (Deaf.block (Deaf.thens (Deaf.thens (Deaf.block (Deaf.thens (Deaf.body RetM.not_panicked))))))) (fun w_ T_ => (q_load_e (i := k) (k := 0) (E := intE) rfl (by kernel_rfl) (by kernel_rfl) T_ (by omega) (by decide) (by kernel_rfl))) (Hx.mono (l1.trans ((G1.drew).drew).imm)) ?_
        refine DW.take (T := fun _ => True) 4 (.slice ay ys.length cy) rfl (by kernel_rfl) rfl (by kernel_rfl) (.inl fun _ => trivial) (by kernel_rfl) (Deaf.thens (Deaf.block (Deaf.thens (Deaf.thens (Deaf.block (Deaf.thens (Deaf.body RetM.not_panicked))))))) (fun w_ _ => (by kernel_rfl)) trivial ?_
        refine DW.take (T := fun _ => True) 5 (.int .i64 (k : Int)) rfl (by kernel_rfl) rfl (by kernel_rfl) (.inl fun _ => trivial) (by kernel_rfl) (Deaf.thens (Deaf.block (Deaf.thens (Deaf.thens (Deaf.block (Deaf.thens (Deaf.body RetM.not_panicked))))))) (fun w_ _ => (by kernel_rfl)) trivial ?_
        refine DW.take (T := fun _ => True) 6 (eptr ay (k * intE.sz)) rfl (by kernel_rfl) rfl (by kernel_rfl) (.inl fun _ => trivial) (by kernel_rfl) (Deaf.thens (Deaf.block (Deaf.thens (Deaf.thens (Deaf.block (Deaf.thens (Deaf.body RetM.not_panicked))))))) (fun w_ _ => (q_indexAddr (i := k) (E := intE) (xs := ys) (e := 3) (c := cy) (k := .i64) (m := ys.length) rfl rfl (by kernel_rfl) (by kernel_rfl) (by kernel_rfl) (Hy.mono (l1.trans ((G1.drew).drew).imm)) (by omega))) trivial ?_
        refine DW.take (T := fun w_ => RS (PH.all w_) intE ay ys) 7 (.int .i64 (ys.getD k intE.dflt)) rfl (by kernel_rfl) rfl (by kernel_rfl) (.inr (by first | exact .head _ | exact .tail _ (.head _) | exact .tail _ (.tail _ (.head _)) | exact .tail _ (.tail _ (.tail _ (.head _))) | simp)) (by kernel_rfl) (Deaf.thens (Deaf.block (Deaf.thens (Deaf.thens (Deaf.block (Deaf.thens (Deaf.body RetM.not_panicked))))))) (fun w_ T_ => (q_load_e (i := k) (k := 0) (E := intE) rfl (by kernel_rfl) (by kernel_rfl) T_ (by omega) (by decide) (by kernel_rfl))) (Hy.mono (l1.trans ((G1.drew).drew).imm)) ?_
        refine DW.take (T := fun _ => True) 8 (.bool (decide ((xs.getD k intE.dflt) > (ys.getD k intE.dflt)))) rfl (by kernel_rfl) rfl (by kernel_rfl) (.inl fun _ => trivial) (by kernel_rfl) (Deaf.thens (Deaf.block (Deaf.thens (Deaf.thens (Deaf.block (Deaf.thens (Deaf.body RetM.not_panicked))))))) (fun w_ _ => (by kernel_rfl)) trivial ?_
        refine DW.done (by kernel_rfl) ?_
        refine EX.then_code ?_
        refine CW.cond (decide ((xs.getD k intE.dflt) > (ys.getD k intE.dflt))) (by kernel_rfl) (by kernel_rfl) (fun c9 => ?_) (fun c9 => ?_)
        ·
          skip
          have d10 := of_decide_eq_true c9
          refine CW.seq ?_
          refine CW.region ?_
          refine WL.q (.int .i64 1) (by kernel_rfl) rfl (by kernel_rfl) (by kernel_rfl) ?_
          refine WL.nil ?_
          refine EX.then_code ?_
          refine CW.ret ?_
          refine EX.ret_block ?_
          refine EX.ret_then ?_
          refine EX.ret_then ?_
          refine EX.ret_block ?_
          refine EX.ret_then ?_
          refine EX.ret1 (v := (.int .i64 1)) rfl (by kernel_rfl) ?_
          exact Ret.mk l1 ((G1.drew).drew) (by first | (have q_ := cmpL_drop (by omega) (by omega) he; rw [q_, if_pos (by assumption)]; done) | (have q_ := cmpL_drop (by omega) (by omega) he; rw [q_, if_neg (by assumption), if_pos (by assumption)]; done) | (have q_ := cmpL_end (by omega) (by omega) (by omega) he; rw [q_]; first | (rw [if_pos (by omega)]; done) | (rw [if_neg (by omega), if_pos (by omega)]; done) | (rw [if_neg (by omega), if_neg (by omega)]; done)))
        ·
          skip
          have d11 := of_decide_eq_false c9
          refine CW.skip ?_
          refine EX.in_block ?_
          refine EX.then_code ?_
          refine CW.region ?_
          refine WL.q (.int .i64 (k : Int)) (by kernel_rfl) rfl (by kernel_rfl) (by kernel_rfl) ?_
          refine WL.q (.int .i64 ((k + 1 : Nat) : Int)) (by kernel_rfl) rfl (by kernel_rfl) (q_int (x := IntKind.i64.wrap ((k : Int) + 1)) (by kernel_rfl) (wrap_to (by omega) (by omega) (by omega))) ?_
          refine WL.q (.int .i64 ((k + 1 : Nat) : Int)) (by kernel_rfl) rfl (by kernel_rfl) (by kernel_rfl) ?_
          refine WL.nil ?_
          exact EX.then_loop (k + 1) ⟨(by kernel_rfl), (by kernel_rfl), (lk_int (x := ((k + 1 : Nat) : Int)) (by kernel_rfl) (by first | omega | (dsimp only; omega) | rfl | (dsimp only; rfl))), trivial⟩ ⟨h1, l1, ((G1.drew).drew), (by first | omega | assumption | (dsimp only [List.length_nil, List.length_append, List.length_cons]; omega)), (by first | omega | assumption | (dsimp only [List.length_nil, List.length_append, List.length_cons]; omega)), (by have q_ := cmpL_drop (by omega) (by omega) he; rw [q_, if_neg (by assumption), if_neg (by assumption)])⟩ (by first | omega | (dsimp only; omega))
    ·
      skip
      have d12 := of_decide_eq_false c4
      refine CW.exit ?_
      refine EX.exit_then ?_
      refine EX.exit_then ?_
      refine EX.exit_here ?_
      refine EX.then_code ?_
      refine CW.seq ?_
      refine CW.block ?_
      refine CW.seq ?_
      refine CW.region ?_
      refine WL.q (.slice ax xs.length cx) (by kernel_rfl) rfl (by kernel_rfl) (by kernel_rfl) ?_
      refine WL.q (.int .i64 (xs.length : Int)) (by kernel_rfl) rfl (by kernel_rfl) (by kernel_rfl) ?_
      refine WL.q (.slice ay ys.length cy) (by kernel_rfl) rfl (by kernel_rfl) (by kernel_rfl) ?_
      refine WL.q (.int .i64 (ys.length : Int)) (by kernel_rfl) rfl (by kernel_rfl) (by kernel_rfl) ?_
      refine WL.q (.bool (decide ((xs.length : Int) < (ys.length : Int)))) (by kernel_rfl) rfl (by kernel_rfl) (by kernel_rfl) ?_
      refine WL.q (.bool (decide ((xs.length : Int) < (ys.length : Int)))) (by kernel_rfl) rfl (by kernel_rfl) (by kernel_rfl) ?_
      refine WL.nil ?_
      refine EX.then_code ?_
      refine CW.cond (decide ((xs.length : Int) < (ys.length : Int))) (by kernel_rfl) (by kernel_rfl) (fun c13 => ?_) (fun c13 => ?_)
      ·
        skip
        have d14 := of_decide_eq_true c13
        refine CW.seq ?_
        refine CW.region ?_
        refine WL.q (.int .i64 (-1)) (by kernel_rfl) rfl (by kernel_rfl) (by kernel_rfl) ?_
        refine WL.nil ?_
        refine EX.then_code ?_
        refine CW.ret ?_
        refine EX.ret_block ?_
        refine EX.ret_then ?_
        refine EX.ret1 (v := (.int .i64 (-1))) rfl (by kernel_rfl) ?_
        exact Ret.mk l1 G1 (by first | (have q_ := cmpL_drop (by omega) (by omega) he; rw [q_, if_pos (by assumption)]; done) | (have q_ := cmpL_drop (by omega) (by omega) he; rw [q_, if_neg (by assumption), if_pos (by assumption)]; done) | (have q_ := cmpL_end (by omega) (by omega) (by omega) he; rw [q_]; first | (rw [if_pos (by omega)]; done) | (rw [if_neg (by omega), if_pos (by omega)]; done) | (rw [if_neg (by omega), if_neg (by omega)]; done)))
      ·
        skip
        have d15 := of_decide_eq_false c13
        refine CW.seq ?_
        refine CW.region ?_
        refine WL.q (.slice ax xs.length cx) (by kernel_rfl) rfl (by kernel_rfl) (by kernel_rfl) ?_
        refine WL.q (.int .i64 (xs.length : Int)) (by kernel_rfl) rfl (by kernel_rfl) (by kernel_rfl) ?_
        refine WL.q (.slice ay ys.length cy) (by kernel_rfl) rfl (by kernel_rfl) (by kernel_rfl) ?_
        refine WL.q (.int .i64 (ys.length : Int)) (by kernel_rfl) rfl (by kernel_rfl) (by kernel_rfl) ?_
        refine WL.q (.bool (decide ((xs.length : Int) > (ys.length : Int)))) (by kernel_rfl) rfl (by kernel_rfl) (by kernel_rfl) ?_
        refine WL.q (.bool (decide ((xs.length : Int) > (ys.length : Int)))) (by kernel_rfl) rfl (by kernel_rfl) (by kernel_rfl) ?_
        refine WL.nil ?_
        refine EX.then_code ?_
        refine CW.cond (decide ((xs.length : Int) > (ys.length : Int))) (by kernel_rfl) (by kernel_rfl) (fun c16 => ?_) (fun c16 => ?_)
        ·
          skip
          have d17 := of_decide_eq_true c16
          refine CW.seq ?_
          refine CW.region ?_
          refine WL.q (.int .i64 1) (by kernel_rfl) rfl (by kernel_rfl) (by kernel_rfl) ?_
          refine WL.nil ?_
          refine EX.then_code ?_
          refine CW.ret ?_
          refine EX.ret_block ?_
          refine EX.ret_then ?_
          refine EX.ret1 (v := (.int .i64 1)) rfl (by kernel_rfl) ?_
          exact Ret.mk l1 G1 (by first | (have q_ := cmpL_drop (by omega) (by omega) he; rw [q_, if_pos (by assumption)]; done) | (have q_ := cmpL_drop (by omega) (by omega) he; rw [q_, if_neg (by assumption), if_pos (by assumption)]; done) | (have q_ := cmpL_end (by omega) (by omega) (by omega) he; rw [q_]; first | (rw [if_pos (by omega)]; done) | (rw [if_neg (by omega), if_pos (by omega)]; done) | (rw [if_neg (by omega), if_neg (by omega)]; done)))
        ·
          skip
          have d18 := of_decide_eq_false c16
          refine CW.skip ?_
          refine EX.in_block ?_
          refine EX.then_code ?_
          refine CW.seq ?_
          refine CW.region ?_
          refine WL.q (.int .i64 0) (by kernel_rfl) rfl (by kernel_rfl) (by kernel_rfl) ?_
          refine WL.nil ?_
          refine EX.then_code ?_
          refine CW.ret ?_
          refine EX.ret1 (v := (.int .i64 0)) rfl (by kernel_rfl) ?_
          exact Ret.mk l1 G1 (by first | (have q_ := cmpL_drop (by omega) (by omega) he; rw [q_, if_pos (by assumption)]; done) | (have q_ := cmpL_drop (by omega) (by omega) he; rw [q_, if_neg (by assumption), if_pos (by assumption)]; done) | (have q_ := cmpL_end (by omega) (by omega) (by omega) he; rw [q_]; first | (rw [if_pos (by omega)]; done) | (rw [if_neg (by omega), if_pos (by omega)]; done) | (rw [if_neg (by omega), if_neg (by omega)]; done)))
  ·
    skip
    have d19 := of_decide_eq_false c2
    refine WL.know 10 (.bool false) (x := .bool (decide ((k : Int) < (xs.length : Int)))) (by kernel_rfl) (congrArg Value.bool c2) ?_
    refine WL.skip (by kernel_rfl) rfl (by kernel_rfl) ?_
    refine WL.skip (by kernel_rfl) rfl (by kernel_rfl) ?_
    refine WL.skip (by kernel_rfl) rfl (by kernel_rfl) ?_
    refine WL.skip (by kernel_rfl) rfl (by kernel_rfl) ?_
    refine WL.q (.bool false) (by kernel_rfl) rfl (by kernel_rfl) (by kernel_rfl) ?_
    refine WL.nil ?_
    refine EX.then_code ?_
    refine CW.cond_f (by kernel_rfl) (by kernel_rfl) ?_
    refine CW.exit ?_
    refine EX.exit_then ?_
    refine EX.exit_then ?_
    refine EX.exit_here ?_
    refine EX.then_code ?_
    refine CW.seq ?_
    refine CW.block ?_
    refine CW.seq ?_
    refine CW.region ?_
    refine WL.q (.slice ax xs.length cx) (by kernel_rfl) rfl (by kernel_rfl) (by kernel_rfl) ?_
    refine WL.q (.int .i64 (xs.length : Int)) (by kernel_rfl) rfl (by kernel_rfl) (by kernel_rfl) ?_
    refine WL.q (.slice ay ys.length cy) (by kernel_rfl) rfl (by kernel_rfl) (by kernel_rfl) ?_
    refine WL.q (.int .i64 (ys.length : Int)) (by kernel_rfl) rfl (by kernel_rfl) (by kernel_rfl) ?_
    refine WL.q (.bool (decide ((xs.length : Int) < (ys.length : Int)))) (by kernel_rfl) rfl (by kernel_rfl) (by kernel_rfl) ?_
    refine WL.q (.bool (decide ((xs.length : Int) < (ys.length : Int)))) (by kernel_rfl) rfl (by kernel_rfl) (by kernel_rfl) ?_
    refine WL.nil ?_
    refine EX.then_code ?_
    refine CW.cond (decide ((xs.length : Int) < (ys.length : Int))) (by kernel_rfl) (by kernel_rfl) (fun c20 => ?_) (fun c20 => ?_)
    ·
      skip
      have d21 := of_decide_eq_true c20
      refine CW.seq ?_
      refine CW.region ?_
      refine WL.q (.int .i64 (-1)) (by kernel_rfl) rfl (by kernel_rfl) (by kernel_rfl) ?_
      refine WL.nil ?_
      refine EX.then_code ?_
      refine CW.ret ?_
      refine EX.ret_block ?_
      refine EX.ret_then ?_
      refine EX.ret1 (v := (.int .i64 (-1))) rfl (by kernel_rfl) ?_
      exact Ret.mk l1 G1 (by first | (have q_ := cmpL_drop (by omega) (by omega) he; rw [q_, if_pos (by assumption)]; done) | (have q_ := cmpL_drop (by omega) (by omega) he; rw [q_, if_neg (by assumption), if_pos (by assumption)]; done) | (have q_ := cmpL_end (by omega) (by omega) (by omega) he; rw [q_]; first | (rw [if_pos (by omega)]; done) | (rw [if_neg (by omega), if_pos (by omega)]; done) | (rw [if_neg (by omega), if_neg (by omega)]; done)))
    ·
      skip
      have d22 := of_decide_eq_false c20
      refine CW.seq ?_
      refine CW.region ?_
      refine WL.q (.slice ax xs.length cx) (by kernel_rfl) rfl (by kernel_rfl) (by kernel_rfl) ?_
      refine WL.q (.int .i64 (xs.length : Int)) (by kernel_rfl) rfl (by kernel_rfl) (by kernel_rfl) ?_
      refine WL.q (.slice ay ys.length cy) (by kernel_rfl) rfl (by kernel_rfl) (by kernel_rfl) ?_
      refine WL.q (.int .i64 (ys.length : Int)) (by kernel_rfl) rfl (by kernel_rfl) (by kernel_rfl) ?_
      refine WL.q (.bool (decide ((xs.length : Int) > (ys.length : Int)))) (by kernel_rfl) rfl (by kernel_rfl) (by kernel_rfl) ?_
      refine WL.q (.bool (decide ((xs.length : Int) > (ys.length : Int)))) (by kernel_rfl) rfl (by kernel_rfl) (by kernel_rfl) ?_
      refine WL.nil ?_
      refine EX.then_code ?_
      refine CW.cond (decide ((xs.length : Int) > (ys.length : Int))) (by kernel_rfl) (by kernel_rfl) (fun c23 => ?_) (fun c23 => ?_)
      ·
        skip
        have d24 := of_decide_eq_true c23
        refine CW.seq ?_
        refine CW.region ?_
        refine WL.q (.int .i64 1) (by kernel_rfl) rfl (by kernel_rfl) (by kernel_rfl) ?_
        refine WL.nil ?_
        refine EX.then_code ?_
        refine CW.ret ?_
        refine EX.ret_block ?_
        refine EX.ret_then ?_
        refine EX.ret1 (v := (.int .i64 1)) rfl (by kernel_rfl) ?_
        exact Ret.mk l1 G1 (by first | (have q_ := cmpL_drop (by omega) (by omega) he; rw [q_, if_pos (by assumption)]; done) | (have q_ := cmpL_drop (by omega) (by omega) he; rw [q_, if_neg (by assumption), if_pos (by assumption)]; done) | (have q_ := cmpL_end (by omega) (by omega) (by omega) he; rw [q_]; first | (rw [if_pos (by omega)]; done) | (rw [if_neg (by omega), if_pos (by omega)]; done) | (rw [if_neg (by omega), if_neg (by omega)]; done)))
      ·
        skip
        have d25 := of_decide_eq_false c23
        refine CW.skip ?_
        refine EX.in_block ?_
        refine EX.then_code ?_
        refine CW.seq ?_
        refine CW.region ?_
        refine WL.q (.int .i64 0) (by kernel_rfl) rfl (by kernel_rfl) (by kernel_rfl) ?_
        refine WL.nil ?_
        refine EX.then_code ?_
        refine CW.ret ?_
        refine EX.ret1 (v := (.int .i64 0)) rfl (by kernel_rfl) ?_
        exact Ret.mk l1 G1 (by first | (have q_ := cmpL_drop (by omega) (by omega) he; rw [q_, if_pos (by assumption)]; done) | (have q_ := cmpL_drop (by omega) (by omega) he; rw [q_, if_neg (by assumption), if_pos (by assumption)]; done) | (have q_ := cmpL_end (by omega) (by omega) (by omega) he; rw [q_]; first | (rw [if_pos (by omega)]; done) | (rw [if_neg (by omega), if_pos (by omega)]; done) | (rw [if_neg (by omega), if_neg (by omega)]; done)))

theorem sameL_spec {K : Key} {w : World} {h M : PH} (G : Wld K w h M) {x y : WhyD} (gx : whyG h x) (gy : whyG h y) :
    Calls Try.prog 25 #[.agg (whyE.enc x).toArray, .agg (whyE.enc y).toArray] w (Ret K h M fun _ v => v = .bool (sameW x y)) := by
  refine enter (l := [(.agg #[(.int .i64 ((x).rule)), (.int .i64 ((x).alt)), (.slice ((x).a) ((x).facts.length) ((x).c))]), (.agg #[(.int .i64 ((y).rule)), (.int .i64 ((y).alt)), (.slice ((y).a) ((y).facts.length) ((y).c))])]) Try.func25 rfl Try.ntmps25 (Nat.le_of_ble_eq_true rfl) ?_
  simp only [params]
  refine CW.seq ?_
  refine CW.region ?_
  refine WL.ex (by kernel_rfl) rfl (by kernel_rfl) (q_newF (ob := (.cells #[(.int .i64 ((x).rule)), (.int .i64 ((x).alt)), (.slice ((x).a) ((x).facts.length) ((x).c))] 28 (0, 0))) G (fun b_ => .pointer (some ⟨b_, 0, none⟩)) (fun u_ => by kernel_rfl)) ?_
  rintro _ w26 ⟨b26, h26, rfl, l26, G26, hb26, L26⟩
  refine WL.ex (by kernel_rfl) rfl (by kernel_rfl) (q_newF (ob := (.cells #[(.int .i64 ((y).rule)), (.int .i64 ((y).alt)), (.slice ((y).a) ((y).facts.length) ((y).c))] 28 (0, 0))) G26 (fun b_ => .pointer (some ⟨b_, 0, none⟩)) (fun u_ => by kernel_rfl)) ?_
  rintro _ w27 ⟨b27, h27, rfl, l27, G27, hb27, L27⟩
  refine WL.q (.bool false) (by kernel_rfl) rfl (by kernel_rfl) (by kernel_rfl) ?_
  refine WL.nil ?_
  refine EX.then_code ?_
  refine CW.seq ?_
  refine CW.region ?_
  refine WL.q (.pointer (some ⟨b26, 0, none⟩)) (by kernel_rfl) rfl (by kernel_rfl) (by kernel_rfl) ?_
  refine WL.q (.int .i64 ((x).rule)) (by kernel_rfl) rfl (by kernel_rfl) (q_load (off := 0) rfl (by kernel_rfl) (by kernel_rfl) (G27.imm _ _ (l27 _ _ hb26)) (by kernel_rfl)) ?_
  refine WL.q (.pointer (some ⟨b27, 0, none⟩)) (by kernel_rfl) rfl (by kernel_rfl) (by kernel_rfl) ?_
  refine WL.q (.int .i64 ((y).rule)) (by kernel_rfl) rfl (by kernel_rfl) (q_load (off := 0) rfl (by kernel_rfl) (by kernel_rfl) (G27.imm _ _ ((PH.le_refl _) _ _ hb27)) (by kernel_rfl)) ?_
  refine WL.q (.bool (((x).rule : Int) == (y).rule)) (by kernel_rfl) rfl (by kernel_rfl) (by kernel_rfl) ?_
  refine WL.q (.bool (((x).rule : Int) == (y).rule)) (by kernel_rfl) rfl (by kernel_rfl) (by kernel_rfl) ?_
  rcases bool_cases (((x).rule : Int) == (y).rule) with c28 | c28
  ·
    skip
    have d29 := eq_of_beq c28
    refine WL.know 10 (.bool true) (x := .bool (((x).rule : Int) == (y).rule)) (by kernel_rfl) (congrArg Value.bool c28) ?_
    refine WL.q (.pointer (some ⟨b26, 1, none⟩)) (by kernel_rfl) rfl (by kernel_rfl) (by kernel_rfl) ?_
    refine WL.q (.int .i64 ((x).alt)) (by kernel_rfl) rfl (by kernel_rfl) (q_load (off := 1) rfl (by kernel_rfl) (by kernel_rfl) (G27.imm _ _ (l27 _ _ hb26)) (by kernel_rfl)) ?_
    refine WL.q (.pointer (some ⟨b27, 1, none⟩)) (by kernel_rfl) rfl (by kernel_rfl) (by kernel_rfl) ?_
    refine WL.q (.int .i64 ((y).alt)) (by kernel_rfl) rfl (by kernel_rfl) (q_load (off := 1) rfl (by kernel_rfl) (by kernel_rfl) (G27.imm _ _ ((PH.le_refl _) _ _ hb27)) (by kernel_rfl)) ?_
    refine WL.q (.bool (((x).alt : Int) == (y).alt)) (by kernel_rfl) rfl (by kernel_rfl) (by kernel_rfl) ?_
    refine WL.q (.bool (((x).alt : Int) == (y).alt)) (by kernel_rfl) rfl (by kernel_rfl) (by kernel_rfl) ?_
    refine WL.q (.bool (((x).alt : Int) == (y).alt)) (by kernel_rfl) rfl (by kernel_rfl) (by kernel_rfl) ?_
    rcases bool_cases (((x).alt : Int) == (y).alt) with c30 | c30
    ·
      skip
      have d31 := eq_of_beq c30
      refine WL.know 17 (.bool true) (x := .bool (((x).alt : Int) == (y).alt)) (by kernel_rfl) (congrArg Value.bool c30) ?_
      refine WL.q (.pointer (some ⟨b26, 2, none⟩)) (by kernel_rfl) rfl (by kernel_rfl) (by kernel_rfl) ?_
      refine WL.q (.slice ((x).a) ((x).facts.length) ((x).c)) (by kernel_rfl) rfl (by kernel_rfl) (q_load (off := 2) rfl (by kernel_rfl) (by kernel_rfl) (G27.imm _ _ (l27 _ _ hb26)) (by kernel_rfl)) ?_
      refine WL.q (.pointer (some ⟨b27, 2, none⟩)) (by kernel_rfl) rfl (by kernel_rfl) (by kernel_rfl) ?_
      refine WL.q (.slice ((y).a) ((y).facts.length) ((y).c)) (by kernel_rfl) rfl (by kernel_rfl) (q_load (off := 2) rfl (by kernel_rfl) (by kernel_rfl) (G27.imm _ _ ((PH.le_refl _) _ _ hb27)) (by kernel_rfl)) ?_
      refine WL.call (by kernel_rfl) rfl (by kernel_rfl) (by kernel_rfl) (cmpL_spec (xs := ((x).facts)) (ys := ((y).facts)) (cx := ((x).c)) (cy := ((y).c)) G27 (gx.1.mono (l26.trans l27)) (gy.1.mono (l26.trans l27)) (by have := gx.2; omega)) (Ret.elim ?_)
      rintro w32 h32 _ l32 G32 rfl
      refine WL.q (.bool (((cmpL ((x).facts) ((y).facts)) : Int) == 0)) (by kernel_rfl) rfl (by kernel_rfl) (by kernel_rfl) ?_
      refine WL.q (.bool (((cmpL ((x).facts) ((y).facts)) : Int) == 0)) (by kernel_rfl) rfl (by kernel_rfl) (by kernel_rfl) ?_
      refine WL.q (.bool (((cmpL ((x).facts) ((y).facts)) : Int) == 0)) (by kernel_rfl) rfl (by kernel_rfl) (by kernel_rfl) ?_
      refine WL.nil ?_
      refine EX.then_code ?_
      refine CW.ret ?_
      refine EX.ret1 (v := (.bool (((cmpL ((x).facts) ((y).facts)) : Int) == 0))) rfl (by kernel_rfl) ?_
      exact Ret.mk ((l26.trans l27).trans l32) G32 (by rw [sameW_r (by assumption) (by assumption)]; congr 1; rw [Bool.eq_iff_iff]; simp [cmpL_zero])
    ·
      skip
      have d33 := ne_of_beq_false c30
      refine WL.know 17 (.bool false) (x := .bool (((x).alt : Int) == (y).alt)) (by kernel_rfl) (congrArg Value.bool c30) ?_
      refine WL.skip (by kernel_rfl) rfl (by kernel_rfl) ?_
      refine WL.skip (by kernel_rfl) rfl (by kernel_rfl) ?_
      refine WL.skip (by kernel_rfl) rfl (by kernel_rfl) ?_
      refine WL.skip (by kernel_rfl) rfl (by kernel_rfl) ?_
      refine WL.skip (by kernel_rfl) rfl (by kernel_rfl) ?_
      refine WL.skip (by kernel_rfl) rfl (by kernel_rfl) ?_
      refine WL.q (.bool false) (by kernel_rfl) rfl (by kernel_rfl) (by kernel_rfl) ?_
      refine WL.q (.bool false) (by kernel_rfl) rfl (by kernel_rfl) (by kernel_rfl) ?_
      refine WL.nil ?_
      refine EX.then_code ?_
      refine CW.ret ?_
      refine EX.ret1 (v := (.bool false)) rfl (by kernel_rfl) ?_
      exact Ret.mk (l26.trans l27) G27 (by have := sameW_no (x := x) (y := y) (by first | exact .inl (by assumption) | exact .inr (.inl (by assumption))); simp [this])
  ·
    skip
    have d34 := ne_of_beq_false c28
    refine WL.know 10 (.bool false) (x := .bool (((x).rule : Int) == (y).rule)) (by kernel_rfl) (congrArg Value.bool c28) ?_
    refine WL.skip (by kernel_rfl) rfl (by kernel_rfl) ?_
    refine WL.skip (by kernel_rfl) rfl (by kernel_rfl) ?_
    refine WL.skip (by kernel_rfl) rfl (by kernel_rfl) ?_
    refine WL.skip (by kernel_rfl) rfl (by kernel_rfl) ?_
    refine WL.skip (by kernel_rfl) rfl (by kernel_rfl) ?_
    refine WL.q (.bool false) (by kernel_rfl) rfl (by kernel_rfl) (by kernel_rfl) ?_
    refine WL.q (.bool false) (by kernel_rfl) rfl (by kernel_rfl) (by kernel_rfl) ?_
    refine WL.skip (by kernel_rfl) rfl (by kernel_rfl) ?_
    refine WL.skip (by kernel_rfl) rfl (by kernel_rfl) ?_
    refine WL.skip (by kernel_rfl) rfl (by kernel_rfl) ?_
    refine WL.skip (by kernel_rfl) rfl (by kernel_rfl) ?_
    refine WL.skip (by kernel_rfl) rfl (by kernel_rfl) ?_
    refine WL.skip (by kernel_rfl) rfl (by kernel_rfl) ?_
    refine WL.q (.bool false) (by kernel_rfl) rfl (by kernel_rfl) (by kernel_rfl) ?_
    refine WL.q (.bool false) (by kernel_rfl) rfl (by kernel_rfl) (by kernel_rfl) ?_
    refine WL.nil ?_
    refine EX.then_code ?_
    refine CW.ret ?_
    refine EX.ret1 (v := (.bool false)) rfl (by kernel_rfl) ?_
    exact Ret.mk (l26.trans l27) G27 (by have := sameW_no (x := x) (y := y) (by first | exact .inl (by assumption) | exact .inr (.inl (by assumption))); simp [this])

theorem find_spec {K : Key} {w : World} {h M : PH} (G : Wld K w h M) {a : Option Addr} {l : List WhyD} {c : Nat} (Hl : RS h whyE a l) (Gl : ∀ x ∈ l, whyG h x) (hb : l.length ≤ 1000000) {y : WhyD} (gy : whyG h y) :
    Calls Try.prog 8 #[.slice a l.length c, .agg (whyE.enc y).toArray] w (Ret K h M fun _ v => v = .int .i64 (idxF (fun x => sameW x y) l)) := by
  refine enter (l := [(.slice a l.length c), (.agg #[(.int .i64 ((y).rule)), (.int .i64 ((y).alt)), (.slice ((y).a) ((y).facts.length) ((y).c))])]) Try.func8 rfl Try.ntmps8 (Nat.le_of_ble_eq_true rfl) ?_
  simp only [params]
  refine CW.seq ?_
  refine CW.region ?_
  refine WL.ex (by kernel_rfl) rfl (by kernel_rfl) (q_newF (ob := (.cells #[(.int .i64 ((y).rule)), (.int .i64 ((y).alt)), (.slice ((y).a) ((y).facts.length) ((y).c))] 28 (0, 0))) G (fun b_ => .pointer (some ⟨b_, 0, none⟩)) (fun u_ => by kernel_rfl)) ?_
  rintro _ w35 ⟨b35, h35, rfl, l35, G35, hb35, L35⟩
  refine WL.q (.int .i64 0) (by kernel_rfl) rfl (by kernel_rfl) (by kernel_rfl) ?_
  refine WL.nil ?_
  refine EX.then_code ?_
  refine CW.seq ?_
  refine CW.seq ?_
  refine CW.region ?_
  refine WL.q (.int .i64 0) (by kernel_rfl) rfl (by kernel_rfl) (by kernel_rfl) ?_
  refine WL.nil ?_
  refine EX.then_code ?_
  refine CW.block ?_
  refine CW.loop (β := Nat) (fun x_ => [(0, (.slice a l.length c)), (3, (.pointer (some ⟨b35, 0, none⟩))), (5, (.int .i64 (x_ : Int)))]) (fun x_ w_ => ∃ h_, (PH.le h35 h_) ∧ (Wld K w_ h_ M) ∧ (x_ ≤ l.length) ∧ (∀ j < x_, (fun x => sameW x y) (l.getD j whyE.dflt) = false)) (fun x_ => l.length - x_) 0 ⟨(by kernel_rfl), (by kernel_rfl), (lk_int (x := 0) (by kernel_rfl) (by first | omega | (dsimp only; omega) | rfl | (dsimp only; rfl))), trivial⟩ ⟨h35, (PH.le_refl _), G35, (by first | omega | assumption | (dsimp only [List.length_nil, List.length_append, List.length_cons]; omega)), (by simp)⟩ ?_
  rintro k w36 ⟨h36, l36, G36, hk, hn⟩
  try dsimp only at *
  refine CW.seq ?_
  refine CW.seq ?_
  refine CW.region ?_
  refine WL.q (.int .i64 (k : Int)) (by kernel_rfl) rfl (by kernel_rfl) (by kernel_rfl) ?_
  refine WL.q (.slice a l.length c) (by kernel_rfl) rfl (by kernel_rfl) (by kernel_rfl) ?_
  refine WL.q (.int .i64 (l.length : Int)) (by kernel_rfl) rfl (by kernel_rfl) (by kernel_rfl) ?_
  refine WL.q (.bool (decide ((k : Int) < (l.length : Int)))) (by kernel_rfl) rfl (by kernel_rfl) (by kernel_rfl) ?_
  refine WL.nil ?_
  refine EX.then_code ?_
  refine CW.cond (decide ((k : Int) < (l.length : Int))) (by kernel_rfl) (by kernel_rfl) (fun c37 => ?_) (fun c37 => ?_)
  ·
    skip
    have d38 := of_decide_eq_true c37
    refine CW.skip ?_
    refine EX.then_code ?_
    refine CW.seq ?_
    refine CW.block ?_
    refine CW.seq ?_
    refine CW.draw (by kernel_rfl) [(3, fun w_ => RS (PH.all w_) whyE a l), (4, fun w_ => PH.all w_ b35 = some (.cells #[(.int .i64 ((y).rule)), (.int .i64 ((y).alt)), (.slice ((y).a) ((y).facts.length) ((y).c))] 28 (0, 0)))] ?_
    refine DW.take (T := fun _ => True) 0 (.slice a l.length c) rfl (by kernel_rfl) rfl (by kernel_rfl) (.inl fun _ => trivial) (by kernel_rfl) (Deaf.thens (Deaf.block (Deaf.thens (Deaf.thens (Deaf.block (Deaf.thens (Deaf.body RetM.not_panicked))))))) (fun w_ _ => (by kernel_rfl)) trivial ?_
    refine DW.take (T := fun _ => True) 1 (.int .i64 (k : Int)) rfl (by kernel_rfl) rfl (by kernel_rfl) (.inl fun _ => trivial) (by kernel_rfl) (Deaf.thens (Deaf.block (Deaf.thens (Deaf.thens (Deaf.block (Deaf.thens (Deaf.body RetM.not_panicked))))))) (fun w_ _ => (by kernel_rfl)) trivial ?_
    refine DW.take (T := fun _ => True) 2 (eptr a (k * whyE.sz)) rfl (by kernel_rfl) rfl (by kernel_rfl) (.inl fun _ => trivial) (by kernel_rfl) (Deaf.thens (Deaf.block (Deaf.thens (Deaf.thens (Deaf.block (Deaf.thens (Deaf.body RetM.not_panicked))))))) (fun w_ _ => (q_indexAddr (i := k) (E := whyE) (xs := l) (e := 28) (c := c) (k := .i64) (m := l.length) rfl rfl (by kernel_rfl) (by kernel_rfl) (by kernel_rfl) (Hl.mono ((l35.trans l36).trans (G36.drew).imm)) (by omega))) trivial ?_
    refine DW.take (T := fun w_ => RS (PH.all w_) whyE a l) 3 (.agg #[(.int .i64 (((l.getD k whyE.dflt)).rule)), (.int .i64 (((l.getD k whyE.dflt)).alt)), (.slice (((l.getD k whyE.dflt)).a) (((l.getD k whyE.dflt)).facts.length) (((l.getD k whyE.dflt)).c))]) rfl (by kernel_rfl) rfl (by kernel_rfl) (.inr (by first | exact .head _ | exact .tail _ (.head _) | exact .tail _ (.tail _ (.head _)) | exact .tail _ (.tail _ (.tail _ (.head _))) | simp)) (by kernel_rfl) (Deaf.thens (Deaf.block (Deaf.thens (Deaf.thens (Deaf.block (Deaf.thens (Deaf.body RetM.not_panicked))))))) (fun w_ T_ => (q_val (q_loadAgg_e (i := k) (E := whyE) rfl (by kernel_rfl) (by kernel_rfl) T_ (by omega)) (by kernel_rfl))) (Hl.mono ((l35.trans l36).trans (G36.drew).imm)) ?_
    refine DW.take (T := fun w_ => PH.all w_ b35 = some (.cells #[(.int .i64 ((y).rule)), (.int .i64 ((y).alt)), (.slice ((y).a) ((y).facts.length) ((y).c))] 28 (0, 0))) 4 (.agg #[(.int .i64 ((y).rule)), (.int .i64 ((y).alt)), (.slice ((y).a) ((y).facts.length) ((y).c))]) rfl (by kernel_rfl) rfl (by kernel_rfl) (.inr (by first | exact .head _ | exact .tail _ (.head _) | exact .tail _ (.tail _ (.head _)) | exact .tail _ (.tail _ (.tail _ (.head _))) | simp)) (by kernel_rfl) (Deaf.thens (Deaf.block (Deaf.thens (Deaf.thens (Deaf.block (Deaf.thens (Deaf.body RetM.not_panicked))))))) (fun w_ T_ => (q_loadAgg (off := 0) (vs := [(.int .i64 ((y).rule)), (.int .i64 ((y).alt)), (.slice ((y).a) ((y).facts.length) ((y).c))]) rfl (by kernel_rfl) (by kernel_rfl) T_ (agg_at (by kernel_rfl)))) ((G36.drew).imm _ _ (l36 _ _ hb35)) ?_
    refine DW.only 5 (by kernel_rfl) ?_
    refine DOp.call rfl (by kernel_rfl) rfl (by kernel_rfl) (by kernel_rfl) (sameL_spec (x := (l.getD k whyE.dflt)) (y := y) (G36.drew) (whyG.mono (l35.trans l36) _ (Gl _ (getD_mem (d := whyE.dflt) (by omega)))) (whyG.mono (l35.trans l36) _ gy)) (Ret.elimD (fun w39 h39 l39 G39 => ⟨.inl (by kernel_rfl), .inl (by kernel_rfl), trivial⟩) ?_)
    rintro w39 h39 _ l39 G39 rfl
    refine DW.done (by kernel_rfl) ?_
    refine EX.then_code ?_
    refine CW.cond (sameW (l.getD k whyE.dflt) y) (by kernel_rfl) (by kernel_rfl) (fun c40 => ?_) (fun c40 => ?_)
    ·
      skip
      refine CW.seq ?_
      refine CW.region ?_
      refine WL.q (.int .i64 (k : Int)) (by kernel_rfl) rfl (by kernel_rfl) (by kernel_rfl) ?_
      refine WL.q (.int .i64 (k : Int)) (by kernel_rfl) rfl (by kernel_rfl) (by kernel_rfl) ?_
      refine WL.nil ?_
      refine EX.then_code ?_
      refine CW.ret ?_
      refine EX.ret_block ?_
      refine EX.ret_then ?_
      refine EX.ret_then ?_
      refine EX.ret_block ?_
      refine EX.ret_then ?_
      refine EX.ret1 (v := (.int .i64 (k : Int))) rfl (by kernel_rfl) ?_
      exact Ret.mk ((l35.trans l36).trans l39) G39 (congrArg (Value.int .i64) ((idxF_some (d := whyE.dflt) (by omega) hn (by assumption)).symm))
    ·
      skip
      refine CW.skip ?_
      refine EX.in_block ?_
      refine EX.then_code ?_
      refine CW.region ?_
      refine WL.q (.int .i64 (k : Int)) (by kernel_rfl) rfl (by kernel_rfl) (by kernel_rfl) ?_
      refine WL.q (.int .i64 ((k + 1 : Nat) : Int)) (by kernel_rfl) rfl (by kernel_rfl) (q_int (x := IntKind.i64.wrap ((k : Int) + 1)) (by kernel_rfl) (wrap_to (by omega) (by omega) (by omega))) ?_
      refine WL.q (.int .i64 ((k + 1 : Nat) : Int)) (by kernel_rfl) rfl (by kernel_rfl) (by kernel_rfl) ?_
      refine WL.nil ?_
      exact EX.then_loop (k + 1) ⟨(by kernel_rfl), (by kernel_rfl), (lk_int (x := ((k + 1 : Nat) : Int)) (by kernel_rfl) (by first | omega | (dsimp only; omega) | rfl | (dsimp only; rfl))), trivial⟩ ⟨h39, (l36.trans l39), G39, (by first | omega | assumption | (dsimp only [List.length_nil, List.length_append, List.length_cons]; omega)), (fun j hj => by rcases Nat.lt_or_ge j k with q | q; (exact hn j q); (obtain rfl : j = k := by omega); assumption)⟩ (by first | omega | (dsimp only; omega))
  ·
    skip
    have d43 := of_decide_eq_false c37
    refine CW.exit ?_
    refine EX.exit_then ?_
    refine EX.exit_then ?_
    refine EX.exit_here ?_
    refine EX.then_code ?_
    refine CW.seq ?_
    refine CW.region ?_
    refine WL.q (.int .i64 (-1)) (by kernel_rfl) rfl (by kernel_rfl) (by kernel_rfl) ?_
    refine WL.nil ?_
    refine EX.then_code ?_
    refine CW.ret ?_
    refine EX.ret1 (v := (.int .i64 (-1))) rfl (by kernel_rfl) ?_
    exact Ret.mk (l35.trans l36) G36 (congrArg (Value.int .i64) ((idxF_none (d := whyE.dflt) (fun j hj => hn j (by omega))).symm))

theorem rows_spec {K : Key} {w : World} {h M : PH} (G : Wld K w h M) {aa ab : Option Addr} {xs ys : List WhyD} {ca cb : Nat} (Hx : RS h whyE aa xs) (Gx : ∀ x ∈ xs, whyG h x) (Hy : RS h whyE ab ys) (Gy : ∀ x ∈ ys, whyG h x) (hb : xs.length ≤ 1000000) :
    Calls Try.prog 10 #[.slice aa xs.length ca, .slice ab ys.length cb] w (Ret K h M fun _ v => v = .bool (rowsW xs ys)) := by
  refine enter (l := [(.slice aa xs.length ca), (.slice ab ys.length cb)]) Try.func10 rfl Try.ntmps10 (Nat.le_of_ble_eq_true rfl) ?_
  simp only [params]
  refine CW.seq ?_
  refine CW.region ?_
  refine WL.q (.bool false) (by kernel_rfl) rfl (by kernel_rfl) (by kernel_rfl) ?_
  refine WL.nil ?_
  refine EX.then_code ?_
  refine CW.seq ?_
  refine CW.seq ?_
  refine CW.region ?_
  refine WL.q (.slice aa xs.length ca) (by kernel_rfl) rfl (by kernel_rfl) (by kernel_rfl) ?_
  refine WL.q (.int .i64 (xs.length : Int)) (by kernel_rfl) rfl (by kernel_rfl) (by kernel_rfl) ?_
  refine WL.q (.slice ab ys.length cb) (by kernel_rfl) rfl (by kernel_rfl) (by kernel_rfl) ?_
  refine WL.q (.int .i64 (ys.length : Int)) (by kernel_rfl) rfl (by kernel_rfl) (by kernel_rfl) ?_
  refine WL.q (.bool (((xs.length : Int) : Int) != (ys.length : Int))) (by kernel_rfl) rfl (by kernel_rfl) (by kernel_rfl) ?_
  refine WL.nil ?_
  refine EX.then_code ?_
  refine CW.cond (((xs.length : Int) : Int) != (ys.length : Int)) (by kernel_rfl) (by kernel_rfl) (fun c44 => ?_) (fun c44 => ?_)
  ·
    skip
    have d45 := bne_true c44
    refine CW.seq ?_
    refine CW.region ?_
    refine WL.q (.bool false) (by kernel_rfl) rfl (by kernel_rfl) (by kernel_rfl) ?_
    refine WL.nil ?_
    refine EX.then_code ?_
    refine CW.ret ?_
    refine EX.ret_then ?_
    refine EX.ret1 (v := (.bool false)) rfl (by kernel_rfl) ?_
    exact Ret.mk (PH.le_refl _) G (congrArg Value.bool ((rowsW_f (by first | exact .inl (by omega) | exact .inr ⟨k, by omega, by first | assumption | exact Go.Wk.not_true (by assumption)⟩)).symm))
  ·
    skip
    have d46 := bne_false c44
    refine CW.skip ?_
    refine EX.then_code ?_
    refine CW.seq ?_
    refine CW.seq ?_
    refine CW.region ?_
    refine WL.q (.int .i64 0) (by kernel_rfl) rfl (by kernel_rfl) (by kernel_rfl) ?_
    refine WL.nil ?_
    refine EX.then_code ?_
    refine CW.block ?_
    refine CW.loop (β := Nat) (fun x_ => [(0, (.slice aa xs.length ca)), (1, (.slice ab ys.length cb)), (5, (.int .i64 (x_ : Int)))]) (fun x_ w_ => ∃ h_, (PH.le h h_) ∧ (Wld K w_ h_ M) ∧ (x_ ≤ xs.length) ∧ (∀ j < x_, sameW (xs.getD j whyE.dflt) (ys.getD j whyE.dflt) = true)) (fun x_ => xs.length - x_) 0 ⟨(by kernel_rfl), (by kernel_rfl), (lk_int (x := 0) (by kernel_rfl) (by first | omega | (dsimp only; omega) | rfl | (dsimp only; rfl))), trivial⟩ ⟨h, (PH.le_refl _), G, (by first | omega | assumption | (dsimp only [List.length_nil, List.length_append, List.length_cons]; omega)), (by simp)⟩ ?_
    rintro k w47 ⟨h47, l47, G47, hk, hn⟩
    try dsimp only at *
    refine CW.seq ?_
    refine CW.seq ?_
    refine CW.region ?_
    refine WL.q (.int .i64 (k : Int)) (by kernel_rfl) rfl (by kernel_rfl) (by kernel_rfl) ?_
    refine WL.q (.slice aa xs.length ca) (by kernel_rfl) rfl (by kernel_rfl) (by kernel_rfl) ?_
    refine WL.q (.int .i64 (xs.length : Int)) (by kernel_rfl) rfl (by kernel_rfl) (by kernel_rfl) ?_
    refine WL.q (.bool (decide ((k : Int) < (xs.length : Int)))) (by kernel_rfl) rfl (by kernel_rfl) (by kernel_rfl) ?_
    refine WL.nil ?_
    refine EX.then_code ?_
    refine CW.cond (decide ((k : Int) < (xs.length : Int))) (by kernel_rfl) (by kernel_rfl) (fun c48 => ?_) (fun c48 => ?_)
    ·
      skip
      have d49 := of_decide_eq_true c48
      refine CW.skip ?_
      refine EX.then_code ?_
      refine CW.seq ?_
      refine CW.block ?_
      refine CW.seq ?_
      refine CW.draw (by kernel_rfl) [(3, fun w_ => RS (PH.all w_) whyE aa xs), (7, fun w_ => RS (PH.all w_) whyE ab ys)] ?_
      refine DW.take (T := fun _ => True) 0 (.slice aa xs.length ca) rfl (by kernel_rfl) rfl (by kernel_rfl) (.inl fun _ => trivial) (by kernel_rfl) (Deaf.thens (Deaf.block (Deaf.thens (Deaf.thens (Deaf.block (Deaf.thens (Deaf.body RetM.not_panicked))))))) (fun w_ _ => (by kernel_rfl)) trivial ?_
      refine DW.take (T := fun _ => True) 1 (.int .i64 (k : Int)) rfl (by kernel_rfl) rfl (by kernel_rfl) (.inl fun _ => trivial) (by kernel_rfl) (Deaf.thens (Deaf.block (Deaf.thens (Deaf.thens (Deaf.block (Deaf.thens (Deaf.body RetM.not_panicked))))))) (fun w_ _ => (by kernel_rfl)) trivial ?_
      refine DW.take (T := fun _ => True) 2 (eptr aa (k * whyE.sz)) rfl (by kernel_rfl) rfl (by kernel_rfl) (.inl fun _ => trivial) (by kernel_rfl) (Deaf.thens (Deaf.block (Deaf.thens (Deaf.thens (Deaf.block (Deaf.thens (Deaf.body RetM.not_panicked))))))) (fun w_ _ => (q_indexAddr (i := k) (E := whyE) (xs := xs) (e := 28) (c := ca) (k := .i64) (m := xs.length) rfl rfl (by kernel_rfl) (by kernel_rfl) (by kernel_rfl) (Hx.mono (l47.trans (G47.drew).imm)) (by omega))) trivial ?_
      refine DW.take (T := fun w_ => RS (PH.all w_) whyE aa xs) 3 (.agg #[(.int .i64 (((xs.getD k whyE.dflt)).rule)), (.int .i64 (((xs.getD k whyE.dflt)).alt)), (.slice (((xs.getD k whyE.dflt)).a) (((xs.getD k whyE.dflt)).facts.length) (((xs.getD k whyE.dflt)).c))]) rfl (by kernel_rfl) rfl (by kernel_rfl) (.inr (by first | exact .head _ | exact .tail _ (.head _) | exact .tail _ (.tail _ (.head _)) | exact .tail _ (.tail _ (.tail _ (.head _))) | simp)) (by kernel_rfl) (Deaf.thens (Deaf.block (Deaf.thens (Deaf.thens (Deaf.block (Deaf.thens (Deaf.body RetM.not_panicked))))))) (fun w_ T_ => (q_val (q_loadAgg_e (i := k) (E := whyE) rfl (by kernel_rfl) (by kernel_rfl) T_ (by omega)) (by kernel_rfl))) (Hx.mono (l47.trans (G47.drew).imm)) ?_
      refine DW.take (T := fun _ => True) 4 (.slice ab ys.length cb) rfl (by kernel_rfl) rfl (by kernel_rfl) (.inl fun _ => trivial) (by kernel_rfl) (Deaf.thens (Deaf.block (Deaf.thens (Deaf.thens (Deaf.block (Deaf.thens (Deaf.body RetM.not_panicked))))))) (fun w_ _ => (by kernel_rfl)) trivial ?_
      refine DW.take (T := fun _ => True) 5 (.int .i64 (k : Int)) rfl (by kernel_rfl) rfl (by kernel_rfl) (.inl fun _ => trivial) (by kernel_rfl) (Deaf.thens (Deaf.block (Deaf.thens (Deaf.thens (Deaf.block (Deaf.thens (Deaf.body RetM.not_panicked))))))) (fun w_ _ => (by kernel_rfl)) trivial ?_
      refine DW.take (T := fun _ => True) 6 (eptr ab (k * whyE.sz)) rfl (by kernel_rfl) rfl (by kernel_rfl) (.inl fun _ => trivial) (by kernel_rfl) (Deaf.thens (Deaf.block (Deaf.thens (Deaf.thens (Deaf.block (Deaf.thens (Deaf.body RetM.not_panicked))))))) (fun w_ _ => (q_indexAddr (i := k) (E := whyE) (xs := ys) (e := 28) (c := cb) (k := .i64) (m := ys.length) rfl rfl (by kernel_rfl) (by kernel_rfl) (by kernel_rfl) (Hy.mono (l47.trans (G47.drew).imm)) (by omega))) trivial ?_
      refine DW.take (T := fun w_ => RS (PH.all w_) whyE ab ys) 7 (.agg #[(.int .i64 (((ys.getD k whyE.dflt)).rule)), (.int .i64 (((ys.getD k whyE.dflt)).alt)), (.slice (((ys.getD k whyE.dflt)).a) (((ys.getD k whyE.dflt)).facts.length) (((ys.getD k whyE.dflt)).c))]) rfl (by kernel_rfl) rfl (by kernel_rfl) (.inr (by first | exact .head _ | exact .tail _ (.head _) | exact .tail _ (.tail _ (.head _)) | exact .tail _ (.tail _ (.tail _ (.head _))) | simp)) (by kernel_rfl) (Deaf.thens (Deaf.block (Deaf.thens (Deaf.thens (Deaf.block (Deaf.thens (Deaf.body RetM.not_panicked))))))) (fun w_ T_ => (q_val (q_loadAgg_e (i := k) (E := whyE) rfl (by kernel_rfl) (by kernel_rfl) T_ (by omega)) (by kernel_rfl))) (Hy.mono (l47.trans (G47.drew).imm)) ?_
      refine DW.only 8 (by kernel_rfl) ?_
      refine DOp.call rfl (by kernel_rfl) rfl (by kernel_rfl) (by kernel_rfl) (sameL_spec (x := (xs.getD k whyE.dflt)) (y := (ys.getD k whyE.dflt)) (G47.drew) (whyG.mono l47 _ (Gx _ (getD_mem (d := whyE.dflt) (by omega)))) (whyG.mono l47 _ (Gy _ (getD_mem (d := whyE.dflt) (by omega))))) (Ret.elimD (fun w50 h50 l50 G50 => ⟨.inl (by kernel_rfl), .inl (by kernel_rfl), trivial⟩) ?_)
      rintro w50 h50 _ l50 G50 rfl
      refine DW.take (T := fun _ => True) 9 (.bool (!(sameW (xs.getD k whyE.dflt) (ys.getD k whyE.dflt)))) rfl (by kernel_rfl) rfl (by kernel_rfl) (.inl fun _ => trivial) (by kernel_rfl) (Deaf.thens (Deaf.block (Deaf.thens (Deaf.thens (Deaf.block (Deaf.thens (Deaf.body RetM.not_panicked))))))) (fun w_ _ => (by kernel_rfl)) trivial ?_
      refine DW.done (by kernel_rfl) ?_
      refine EX.then_code ?_
      refine CW.cond (!(sameW (xs.getD k whyE.dflt) (ys.getD k whyE.dflt))) (by kernel_rfl) (by kernel_rfl) (fun c51 => ?_) (fun c51 => ?_)
      ·
        skip
        have d52 := not_true c51
        refine CW.seq ?_
        refine CW.region ?_
        refine WL.q (.bool false) (by kernel_rfl) rfl (by kernel_rfl) (by kernel_rfl) ?_
        refine WL.nil ?_
        refine EX.then_code ?_
        refine CW.ret ?_
        refine EX.ret_block ?_
        refine EX.ret_then ?_
        refine EX.ret_then ?_
        refine EX.ret_block ?_
        refine EX.ret_then ?_
        refine EX.ret1 (v := (.bool false)) rfl (by kernel_rfl) ?_
        exact Ret.mk (l47.trans l50) G50 (congrArg Value.bool ((rowsW_f (by first | exact .inl (by omega) | exact .inr ⟨k, by omega, by first | assumption | exact Go.Wk.not_true (by assumption)⟩)).symm))
      ·
        skip
        have d54 := not_false c51
        refine CW.skip ?_
        refine EX.in_block ?_
        refine EX.then_code ?_
        refine CW.region ?_
        refine WL.q (.int .i64 (k : Int)) (by kernel_rfl) rfl (by kernel_rfl) (by kernel_rfl) ?_
        refine WL.q (.int .i64 ((k + 1 : Nat) : Int)) (by kernel_rfl) rfl (by kernel_rfl) (q_int (x := IntKind.i64.wrap ((k : Int) + 1)) (by kernel_rfl) (wrap_to (by omega) (by omega) (by omega))) ?_
        refine WL.q (.int .i64 ((k + 1 : Nat) : Int)) (by kernel_rfl) rfl (by kernel_rfl) (by kernel_rfl) ?_
        refine WL.nil ?_
        exact EX.then_loop (k + 1) ⟨(by kernel_rfl), (by kernel_rfl), (lk_int (x := ((k + 1 : Nat) : Int)) (by kernel_rfl) (by first | omega | (dsimp only; omega) | rfl | (dsimp only; rfl))), trivial⟩ ⟨h50, (l47.trans l50), G50, (by first | omega | assumption | (dsimp only [List.length_nil, List.length_append, List.length_cons]; omega)), (fun j hj => by rcases Nat.lt_or_ge j k with q | q; (exact hn j q); (obtain rfl : j = k := by omega); first | assumption | exact Go.Wk.not_false (by assumption))⟩ (by first | omega | (dsimp only; omega))
    ·
      skip
      have d56 := of_decide_eq_false c48
      refine CW.exit ?_
      refine EX.exit_then ?_
      refine EX.exit_then ?_
      refine EX.exit_here ?_
      refine EX.then_code ?_
      refine CW.seq ?_
      refine CW.region ?_
      refine WL.q (.bool true) (by kernel_rfl) rfl (by kernel_rfl) (by kernel_rfl) ?_
      refine WL.nil ?_
      refine EX.then_code ?_
      refine CW.ret ?_
      refine EX.ret1 (v := (.bool true)) rfl (by kernel_rfl) ?_
      exact Ret.mk l47 G47 (congrArg Value.bool ((rowsW_t (by omega) (fun j hj => hn j (by omega))).symm))

theorem at_spec {K : Key} {w : World} {h M : PH} (G : Wld K w h M) {M0 Mt : PH} (hM : PH.le Mt M) {a : Option Addr} {row : List StandD} {c : Nat} (own : Own 43 standE M0 Mt a c row) (hb : row.length ≤ 1000000) (f : Int) :
    Calls Try.prog 13 #[.slice a row.length c, .int .i64 f] w (Ret K h M fun _ v => v = .int .i64 (idxF (fun s => s.fact == f) row)) := by
  refine enter (l := [(.slice a row.length c), (.int .i64 f)]) Try.func13 rfl Try.ntmps13 (Nat.le_of_ble_eq_true rfl) ?_
  simp only [params]
  refine CW.seq ?_
  refine CW.region ?_
  refine WL.q (.int .i64 0) (by kernel_rfl) rfl (by kernel_rfl) (by kernel_rfl) ?_
  refine WL.nil ?_
  refine EX.then_code ?_
  refine CW.seq ?_
  refine CW.seq ?_
  refine CW.region ?_
  refine WL.q (.int .i64 0) (by kernel_rfl) rfl (by kernel_rfl) (by kernel_rfl) ?_
  refine WL.nil ?_
  refine EX.then_code ?_
  refine CW.block ?_
  refine CW.loop (β := Nat) (fun x_ => [(0, (.slice a row.length c)), (1, (.int .i64 f)), (5, (.int .i64 (x_ : Int)))]) (fun x_ w_ => ∃ h_, (PH.le h h_) ∧ (Wld K w_ h_ M) ∧ (x_ ≤ row.length) ∧ (∀ j < x_, (fun s : StandD => s.fact == f) (row.getD j standE.dflt) = false)) (fun x_ => row.length - x_) 0 ⟨(by kernel_rfl), (by kernel_rfl), (lk_int (x := 0) (by kernel_rfl) (by first | omega | (dsimp only; omega) | rfl | (dsimp only; rfl))), trivial⟩ ⟨h, (PH.le_refl _), G, (by first | omega | assumption | (dsimp only [List.length_nil, List.length_append, List.length_cons]; omega)), (by simp)⟩ ?_
  rintro k w57 ⟨h57, l57, G57, hk, hn⟩
  try dsimp only at *
  refine CW.seq ?_
  refine CW.seq ?_
  refine CW.region ?_
  refine WL.q (.int .i64 (k : Int)) (by kernel_rfl) rfl (by kernel_rfl) (by kernel_rfl) ?_
  refine WL.q (.slice a row.length c) (by kernel_rfl) rfl (by kernel_rfl) (by kernel_rfl) ?_
  refine WL.q (.int .i64 (row.length : Int)) (by kernel_rfl) rfl (by kernel_rfl) (by kernel_rfl) ?_
  refine WL.q (.bool (decide ((k : Int) < (row.length : Int)))) (by kernel_rfl) rfl (by kernel_rfl) (by kernel_rfl) ?_
  refine WL.nil ?_
  refine EX.then_code ?_
  refine CW.cond (decide ((k : Int) < (row.length : Int))) (by kernel_rfl) (by kernel_rfl) (fun c58 => ?_) (fun c58 => ?_)
  ·
    skip
    have d59 := of_decide_eq_true c58
    refine CW.skip ?_
    refine EX.then_code ?_
    refine CW.seq ?_
    refine CW.block ?_
    refine CW.seq ?_
    refine CW.region ?_
    refine WL.q (.slice a row.length c) (by kernel_rfl) rfl (by kernel_rfl) (by kernel_rfl) ?_
    refine WL.q (.int .i64 (k : Int)) (by kernel_rfl) rfl (by kernel_rfl) (by kernel_rfl) ?_
    refine WL.q (eptr a (k * standE.sz)) (by kernel_rfl) rfl (by kernel_rfl) (q_indexAddr (i := k) (E := standE) (xs := row) (e := 43) (c := c) (k := .i64) (m := row.length) rfl rfl (by kernel_rfl) (by kernel_rfl) (by kernel_rfl) (own.reads.mono (hM.trans G57.own)) (by omega)) ?_
    refine WL.q (eptr a (k * standE.sz + 0)) (by kernel_rfl) rfl (by kernel_rfl) (q_fieldAddr_e (i := k) (k := k * standE.sz) (off := 0) rfl (by kernel_rfl) (by kernel_rfl) (own.reads.mono (hM.trans G57.own)) (by omega)) ?_
    refine WL.q (.int .i64 (((row.getD k standE.dflt)).fact)) (by kernel_rfl) rfl (by kernel_rfl) (q_load_e (i := k) (k := 0) (E := standE) rfl (by kernel_rfl) (by kernel_rfl) (own.reads.mono (hM.trans G57.own)) (by omega) (by decide) (by kernel_rfl)) ?_
    refine WL.q (.int .i64 f) (by kernel_rfl) rfl (by kernel_rfl) (by kernel_rfl) ?_
    refine WL.q (.bool ((((row.getD k standE.dflt)).fact : Int) == f)) (by kernel_rfl) rfl (by kernel_rfl) (by kernel_rfl) ?_
    refine WL.nil ?_
    refine EX.then_code ?_
    refine CW.cond ((((row.getD k standE.dflt)).fact : Int) == f) (by kernel_rfl) (by kernel_rfl) (fun c60 => ?_) (fun c60 => ?_)
    ·
      skip
      have d61 := eq_of_beq c60
      refine CW.seq ?_
      refine CW.region ?_
      refine WL.q (.int .i64 (k : Int)) (by kernel_rfl) rfl (by kernel_rfl) (by kernel_rfl) ?_
      refine WL.q (.int .i64 (k : Int)) (by kernel_rfl) rfl (by kernel_rfl) (by kernel_rfl) ?_
      refine WL.nil ?_
      refine EX.then_code ?_
      refine CW.ret ?_
      refine EX.ret_block ?_
      refine EX.ret_then ?_
      refine EX.ret_then ?_
      refine EX.ret_block ?_
      refine EX.ret_then ?_
      refine EX.ret1 (v := (.int .i64 (k : Int))) rfl (by kernel_rfl) ?_
      exact Ret.mk l57 G57 (congrArg (Value.int .i64) ((idxF_some (d := standE.dflt) (by omega) hn (by first | assumption | exact beq_iff_eq.2 (by assumption))).symm))
    ·
      skip
      have d62 := ne_of_beq_false c60
      refine CW.skip ?_
      refine EX.in_block ?_
      refine EX.then_code ?_
      refine CW.region ?_
      refine WL.q (.int .i64 (k : Int)) (by kernel_rfl) rfl (by kernel_rfl) (by kernel_rfl) ?_
      refine WL.q (.int .i64 ((k + 1 : Nat) : Int)) (by kernel_rfl) rfl (by kernel_rfl) (q_int (x := IntKind.i64.wrap ((k : Int) + 1)) (by kernel_rfl) (wrap_to (by omega) (by omega) (by omega))) ?_
      refine WL.q (.int .i64 ((k + 1 : Nat) : Int)) (by kernel_rfl) rfl (by kernel_rfl) (by kernel_rfl) ?_
      refine WL.nil ?_
      exact EX.then_loop (k + 1) ⟨(by kernel_rfl), (by kernel_rfl), (lk_int (x := ((k + 1 : Nat) : Int)) (by kernel_rfl) (by first | omega | (dsimp only; omega) | rfl | (dsimp only; rfl))), trivial⟩ ⟨h57, l57, G57, (by first | omega | assumption | (dsimp only [List.length_nil, List.length_append, List.length_cons]; omega)), (fun j hj => by rcases Nat.lt_or_ge j k with q | q; (exact hn j q); (obtain rfl : j = k := by omega); first | assumption | (exact beq_eq_false_iff_ne.2 (by assumption)))⟩ (by first | omega | (dsimp only; omega))
  ·
    skip
    have d63 := of_decide_eq_false c58
    refine CW.exit ?_
    refine EX.exit_then ?_
    refine EX.exit_then ?_
    refine EX.exit_here ?_
    refine EX.then_code ?_
    refine CW.seq ?_
    refine CW.region ?_
    refine WL.q (.int .i64 (-1)) (by kernel_rfl) rfl (by kernel_rfl) (by kernel_rfl) ?_
    refine WL.nil ?_
    refine EX.then_code ?_
    refine CW.ret ?_
    refine EX.ret1 (v := (.int .i64 (-1))) rfl (by kernel_rfl) ?_
    exact Ret.mk l57 G57 (congrArg (Value.int .i64) ((idxF_none (d := standE.dflt) (fun j hj => hn j (by omega))).symm))
end Go.Proofs
