/-
  The calculus, second part: operations one by one; regions whose order is drawn; ends of functions; calls.
-/
import Derived.Test.YthlcldgcjilfcaaLib1
namespace Go.Wk
open Go

/-! ### A list of operations -/
def WL (P : Program) (ops : Array Oper) (Q : Exit → Act → World → Prop) (l : List Oper) (n : Nat) (env : Env) (w : World) : Prop :=
  ∀ a, Agr n env a → wpList P ops Q l a w

/-- The result of one operation that just hands back a value. -/
abbrev runs (P : Program) (env : Env) (o : Oper) (w : World) (v : Value) (w' : World) : Prop := (execOp (ev env) o).run P w = .ok (.value v) w'

section
variable {P : Program} {ops : Array Oper} {Q : Exit → Act → World → Prop} {o : Oper} {rest : List Oper} {n : Nat} {env : Env} {w : World}

theorem CW.region {id : Nat} {l : List Oper} (h : WL P l.toArray Q l n env w) : CW P (.region id l.toArray false) Q n env w := fun a ha => wp_region_lit (h a ha)
theorem WL.nil (h : EX .normal Q n env w) : WL P ops Q [] n env w := fun a ha => wpList_nil (h a ha)
theorem WL.sub {l : List Oper} {env' : Env} (hs : Wk.sub env' env) (h : WL P ops Q l n env' w) : WL P ops Q l n env w := fun a ha => h a (ha.sub hs)

theorem WL.val {d : Nat} (v : Value) {w' : World} (hk : knowsOp n env o = true) (hd : o.dst = some d) (hg : wantedE ops env o = some true)
    (hr : (execOp (ev env) o).run P w = .ok (.value v) w') (h : WL P ops Q rest n ((d, v) :: env) w') : WL P ops Q (o :: rest) n env w := fun a ha => by
  refine wpList_step fun K hK => ?_
  rw [if_pos (ha.wanted hg)]
  unfold Oper.wp
  rw [ha.exec hk, hr, Oper.upon_value, hd]
  exact hK _ _ (h _ (ha.put ((knowsOp_spec hk).2.2 d hd) v))

theorem WL.q {d : Nat} (v : Value) (hk : knowsOp n env o = true) (hd : o.dst = some d) (hg : wantedE ops env o = some true)
    (hr : (execOp (ev env) o).run P w = .ok (.value v) w) (h : WL P ops Q rest n ((d, v) :: env) w) : WL P ops Q (o :: rest) n env w := WL.val v hk hd hg hr h

theorem WL.skip {d : Nat} (hk : knowsOp n env o = true) (hd : o.dst = some d) (hg : wantedE ops env o = some false)
    (h : WL P ops Q rest n ((d, undef) :: env) w) : WL P ops Q (o :: rest) n env w := fun a ha => by
  refine wpList_step fun K hK => ?_
  rw [if_neg (by rw [ha.wanted hg]; simp), hd]
  exact hK _ _ (h _ (ha.put ((knowsOp_spec hk).2.2 d hd) undef))

theorem WL.unit {w' : World} (hk : knowsOp n env o = true) (hd : o.dst = none) (hg : wantedE ops env o = some true)
    (hr : (execOp (ev env) o).run P w = .ok .skip w') (h : WL P ops Q rest n env w') : WL P ops Q (o :: rest) n env w := fun a ha => by
  refine wpList_step fun K hK => ?_
  rw [if_pos (ha.wanted hg)]
  unfold Oper.wp
  rw [ha.exec hk, hr, Oper.upon_skip, hd]
  exact hK _ _ (h _ ha)

/-- A value that nobody keeps (a builtin's as a statement). -/
theorem WL.val0 (v : Value) {w' : World} (hk : knowsOp n env o = true) (hd : o.dst = none) (hg : wantedE ops env o = some true)
    (hr : (execOp (ev env) o).run P w = .ok (.value v) w') (h : WL P ops Q rest n env w') : WL P ops Q (o :: rest) n env w := fun a ha => by
  refine wpList_step fun K hK => ?_
  rw [if_pos (ha.wanted hg)]
  unfold Oper.wp
  rw [ha.exec hk, hr, Oper.upon_value, hd]
  exact hK _ _ (h _ ha)

theorem WL.call {d : Nat} {f : FuncId} {args : Array Value} {R : Ending → World → Prop} (hk : knowsOp n env o = true) (hd : o.dst = some d) (hg : wantedE ops env o = some true)
    (hr : (execOp (ev env) o).run P w = .ok (.enter f args) w) (hc : Calls P f args w R)
    (h : ∀ e w', R e w' → ∃ v, e = .returned v ∧ WL P ops Q rest n ((d, v) :: env) w') : WL P ops Q (o :: rest) n env w := fun a ha => by
  refine wpList_step fun K hK => ?_
  rw [if_pos (ha.wanted hg)]
  unfold Oper.wp
  rw [ha.exec hk, hr, Oper.upon_enter, hd]
  refine hc.mono fun e w' he => ?_
  obtain ⟨v, rfl, hv⟩ := h e w' he
  exact hK _ _ (hv _ (ha.put ((knowsOp_spec hk).2.2 d hd) v))
end

/-! ### Ends -/
section
variable {P : Program} {Q Q' : Exit → Act → World → Prop} {n : Nat} {env : Env} {w : World} {R : Ending → World → Prop} {fn : Func}

theorem EX.then_code {y : Code} (h : CW P y Q n env w) : EX .normal (Exit.then (y.wp P Q) Q') n env w := h
theorem EX.then_loop {β : Type} {E : β → Env} {J : β → World → Prop} {C : β → Prop} (b : β) (hs : Wk.sub (E b) env) (hj : J b w) (hc : C b) :
    EX .normal (Exit.then (fun a w' => ∃ b', Agr n (E b') a ∧ J b' w' ∧ C b') Q) n env w := fun _ ha => ⟨b, ha.sub hs, hj, hc⟩
theorem EX.then_cut {β : Type} {E : β → Env} {J : β → World → Prop} (b : β) (hs : Wk.sub (E b) env) (hj : J b w) :
    EX .normal (Exit.then (fun a w' => ∃ b', Agr n (E b') a ∧ J b' w') Q) n env w := fun _ ha => ⟨b, ha.sub hs, hj⟩
theorem EX.in_block {id : Nat} (h : EX .normal Q n env w) : EX .normal (Exit.inBlock id Q) n env w := h
theorem EX.exit_then {N : Act → World → Prop} {id : Nat} (h : EX (.exit id) Q n env w) : EX (.exit id) (Exit.then N Q) n env w := h
theorem EX.exit_here {id : Nat} (h : EX .normal Q n env w) : EX (.exit id) (Exit.inBlock id Q) n env w := fun a ha => by
  simp only [Exit.inBlock, if_true]; exact h a ha
theorem EX.exit_on {id id' : Nat} (hne : id ≠ id') (h : EX (.exit id) Q n env w) : EX (.exit id) (Exit.inBlock id' Q) n env w := fun a ha => by
  simp only [Exit.inBlock, if_neg hne]; exact h a ha
theorem EX.ret_then {N : Act → World → Prop} (h : EX .ret Q n env w) : EX .ret (Exit.then N Q) n env w := h
theorem EX.ret_block {id : Nat} (h : EX .ret Q n env w) : EX .ret (Exit.inBlock id Q) n env w := h

theorem Agr.getD {a : Act} (ha : Agr n env a) {t : Nat} {v : Value} (h : env.lookup t = some v) : a.tmps.getD t undef = v := by
  simp [ha.get t v h]

theorem EX.ret0 (hr : fn.results = #[]) (h : R (.returned (.tuple #[])) w) : EX .ret (bodyPost P fn R) n env w := fun _ ha =>
  bodyPost_ret (results_none hr _ _ _) ha.defers h
theorem EX.end0 (hr : fn.results = #[]) (h : R (.returned (.tuple #[])) w) : EX .normal (bodyPost P fn R) n env w := fun _ ha =>
  bodyPost_end (results_none hr _ _ _) ha.defers h
theorem EX.ret1 {t : Nat} {v : Value} (hr : fn.results = #[.tmp t]) (hv : env.lookup t = some v) (h : R (.returned v) w) : EX .ret (bodyPost P fn R) n env w := fun _ ha =>
  bodyPost_ret (results_tmp hr _ _ _) ha.defers (by rw [ha.getD hv]; exact h)
theorem EX.ret2 {t u : Nat} {v x : Value} (hr : fn.results = #[.tmp t, .tmp u]) (hv : env.lookup t = some v) (hx : env.lookup u = some x)
    (h : R (.returned (.tuple #[v, x])) w) : EX .ret (bodyPost P fn R) n env w := fun _ ha =>
  bodyPost_ret (results_tmp2 hr _ _ _) ha.defers (by rw [ha.getD hv, ha.getD hx]; exact h)
theorem EX.ret3 {t u s : Nat} {v x y : Value} (hr : fn.results = #[.tmp t, .tmp u, .tmp s]) (hv : env.lookup t = some v) (hx : env.lookup u = some x) (hy : env.lookup s = some y)
    (h : R (.returned (.tuple #[v, x, y])) w) : EX .ret (bodyPost P fn R) n env w := fun a ha =>
  bodyPost_ret (v := .tuple #[v, x, y]) (by have e1 := ha.getD hv; have e2 := ha.getD hx; have e3 := ha.getD hy; simp only [Array.getD_eq_getD_getElem?] at e1 e2 e3; simp [results, hr, e1, e2, e3]) ha.defers h

/-- A function is entered: its parameters are all that is known. -/
def params : Nat → List Value → Env
  | _, [] => []
  | k, v :: r => (k, v) :: params (k + 1) r

theorem params_get {l : List Value} : ∀ {k : Nat} {t : Nat} {v : Value}, (params k l).lookup t = some v → k ≤ t ∧ l[t - k]? = some v := by
  induction l with
  | nil => intro k t v h; simp [params] at h
  | cons x r ih =>
    intro k t v h
    simp only [params, List.lookup_cons] at h
    split at h
    · rename_i e
      have e' : t = k := by simpa using e
      subst e'
      simp only [Option.some.injEq] at h
      subst h
      simp
    · obtain ⟨h1, h2⟩ := ih h
      refine ⟨by omega, ?_⟩
      have : t - k = (t - (k + 1)) + 1 := by omega
      rw [this, List.getElem?_cons_succ]
      exact h2

theorem enter {f : FuncId} {c : Code} {l : List Value} (hf : P.funcs[f]? = some fn) (hb : fn.body = some c) (hn : fn.ntmps = n) (hl : l.length ≤ n)
    (h : CW P c (bodyPost P fn R) n (params 0 l) w) : Calls P f l.toArray w R := by
  refine calls_of_wp hf hb (h _ ⟨?_, rfl, fun t v ht => ?_⟩)
  · simp; omega
  · obtain ⟨_, h2⟩ := params_get ht
    simp only [Nat.sub_zero] at h2
    have hlt : t < l.length := by
      rcases Nat.lt_or_ge t l.length with h' | h'
      · exact h'
      · simp [List.getElem?_eq_none h'] at h2
    simp only
    rw [Array.getElem?_append_left (by simpa using hlt)]
    simpa using h2
end

/-! ### A region whose order is drawn -/
section
variable {P : Program} {ops : Array Oper} {Q : Exit → Act → World → Prop}

/-- Does operation j wait for i, by an edge of its own? -/
def waits (ops : Array Oper) (j i : Nat) : Bool :=
  match ops[j]? with
  | some o => o.after.any fun e => Region.binds .any e && e.on == i
  | none => false

/-- What is to be shown of operation j: it leaves standing all that those operations rest on that do not precede it. -/
def owed (ops : Array Oper) (j : Nat) (w w' : World) : List (Nat × (World → Prop)) → Prop
  | [] => True
  | p :: r => (waits ops j p.1 = true ∨ (p.2 w → p.2 w')) ∧ owed ops j w w' r

theorem owed_spec {j : Nat} {w w' : World} : ∀ {S : List (Nat × (World → Prop))}, owed ops j w w' S → ∀ p ∈ S, waits ops j p.1 = false → p.2 w → p.2 w'
  | [], _, p, hp, _ => by cases hp
  | q :: r, h, p, hp, hw => by
    cases hp with
    | head => rcases h.1 with h1 | h1
              · rw [h1] at hw; cases hw
              · exact h1
    | tail _ hm => exact owed_spec h.2 p hm hw

theorem owed_refl {j : Nat} {w : World} : ∀ (S : List (Nat × (World → Prop))), owed ops j w w S
  | [] => trivial
  | _ :: r => ⟨.inr id, owed_refl r⟩

def wpD (P : Program) (ops : Array Oper) (Q : Exit → Act → World → Prop) (S : List (Nat × (World → Prop))) : Nat → Array Bool → Act → World → Prop
  | 0, listed, a, w => Region.ready .any ops listed = [] ∧ Q .normal a w
  | fuel + 1, listed, a, w =>
    (Region.ready .any ops listed = [] → Q .normal a w) ∧
    ∀ i ∈ Region.ready .any ops listed, wpOp P ops Q i (fun a' w' => owed ops i w w' S ∧ wpD P ops Q S fuel (listed.setIfInBounds i true) a' w') a w

theorem wpAny_of_D {S : List (Nat × (World → Prop))} : ∀ (fuel : Nat) (listed : Array Bool) (a : Act) (w : World), wpD P ops Q S fuel listed a w → wpAny P .any ops Q fuel listed a w
  | 0, _, _, _, h => h
  | fuel + 1, _, _, _, h => ⟨h.1, fun i hi => wpOp_mono (fun a' w' h' => wpAny_of_D fuel _ a' w' h'.2) (h.2 i hi)⟩

theorem waits_false {i j : Nat} {oj : Oper} {listed : Array Bool} (hoj : ops[j]? = some oj) (hall : ∀ e ∈ oj.after, Region.binds .any e = true → listed.getD e.on false = true)
    (hi : listed.getD i true = false) : waits ops j i = false ∧ ∀ e ∈ oj.after, Region.binds .any e = true → e.on ≠ i := by
  have hno : ∀ e ∈ oj.after, Region.binds .any e = true → e.on ≠ i := fun e he hb heq => by
    have h1 := hall e he hb
    rw [heq] at h1
    rcases Nat.lt_or_ge i listed.size with h' | h'
    · simp [h'] at hi h1; rw [hi] at h1; cases h1
    · simp [Array.getElem?_eq_none h'] at h1
  refine ⟨?_, hno⟩
  unfold waits
  rw [hoj]
  simp only [Bool.eq_false_iff, ne_eq, Array.any_eq_true', not_exists, not_and]
  intro e he hb
  simp only [Bool.and_eq_true, beq_iff_eq] at hb
  exact hno e he hb.1 hb.2

/-- An operation that may come up may be taken first, if it yields its value in every world in which what it rests on holds. -/
theorem wpD_first {S : List (Nat × (World → Prop))} {T : World → Prop} {i : Nat} {oi : Oper} {v : Value} (hi : ops[i]? = some oi)
    (hT : (∀ w, T w) ∨ (i, T) ∈ S) (hsel : ∀ (j : Nat) (o : Oper) cs b, ops[j]? = some o → o.op ≠ .select cs b)
    (hQ : ∀ c a w, Q (.panic c) (a.put oi.dst v) w → Q (.panic c) a w) :
    ∀ (fuel : Nat) (listed : Array Bool) (a : Act) (w : World),
      (∀ j oj, ops[j]? = some oj → j ≠ i → listed.getD j true = false → (∀ e ∈ oj.after, Region.binds .any e = true → e.on ≠ i) → oi.apart ops oj = true) →
      i ∈ Region.ready .any ops listed → YieldsIf P ops T oi v a → T w →
      wpD P ops Q S fuel (listed.setIfInBounds i true) (a.put oi.dst v) w → wpD P ops Q S (fuel + 1) listed a w := by
  intro fuel
  induction fuel with
  | zero =>
    intro listed a w _ hr hy hS H
    refine ⟨fun h => (by rw [h] at hr; cases hr), fun j hj => ?_⟩
    by_cases hji : j = i
    · subst hji; exact hy.wpOp hi hS ⟨owed_refl S, H⟩
    · have := ready_mono hj hji
      rw [H.1] at this
      cases this
  | succ fuel ih =>
    intro listed a w hfree hr hy hS H
    refine ⟨fun h => (by rw [h] at hr; cases hr), fun j hj => ?_⟩
    by_cases hji : j = i
    · subst hji; exact hy.wpOp hi hS ⟨owed_refl S, H⟩
    · have h1 := H.2 j (ready_mono hj hji)
      obtain ⟨hjun, oj, hoj, hall⟩ := mem_ready.1 hj
      obtain ⟨hwt, hnot⟩ := waits_false hoj hall (mem_ready.1 hr).1
      have h2 := wpOp_putIf hoj (hfree j oj hoj hji hjun hnot) (fun cs b => hsel i oi cs b hi) (fun cs b => hsel j oj cs b hoj) hQ hy h1
      have hfree' : ∀ k ok, ops[k]? = some ok → k ≠ i → (listed.setIfInBounds j true).getD k true = false →
          (∀ e ∈ ok.after, Region.binds .any e = true → e.on ≠ i) → oi.apart ops ok = true := fun k ok hk hki hun hno => by
        refine hfree k ok hk hki ?_ hno
        by_cases hjk : j = k
        · subst hjk; exact hjun
        · rw [getD_set_ne true hjk] at hun; exact hun
      refine wpOp_mono (fun a' w' h3 => ⟨h3.2.1, ih (listed.setIfInBounds j true) a' w' hfree' (ready_mono hr (Ne.symm hji)) h3.1 ?_ ?_⟩) h2
      · rcases hT with hT | hT
        · exact hT w'
        · exact owed_spec h3.2.1 _ hT hwt hS
      · rw [Array.setIfInBounds_comm _ _ hji]
        exact h3.2.2

/-- The same over what is known of a frame. The side conditions are Bools to be reckoned. -/
def DW (P : Program) (ops : Array Oper) (Q : Exit → Act → World → Prop) (S : List (Nat × (World → Prop))) (fuel : Nat) (listed : Array Bool) (n : Nat) (env : Env) (w : World) : Prop :=
  ∀ a, Agr n env a → wpD P ops Q S fuel listed a w

/-- Q does not look at the frame of a panic. -/
def Deaf (Q : Exit → Act → World → Prop) : Prop := ∀ c a a' w, Q (.panic c) a w → Q (.panic c) a' w
theorem Deaf.thens {N : Act → World → Prop} (h : Deaf Q) : Deaf (Exit.then N Q) := h
theorem Deaf.block {id : Nat} (h : Deaf Q) : Deaf (Exit.inBlock id Q) := h
theorem Deaf.body {fn : Func} {R : Ending → World → Prop} (h : ∀ c w, ¬ R (.panicked c) w) : Deaf (bodyPost P fn R) := fun c _ _ w hq => absurd hq.2 (h c w)

variable {n : Nat} {env : Env} {w : World} {S : List (Nat × (World → Prop))} {fuel : Nat} {listed : Array Bool}

theorem CW.draw {id : Nat} (hm : P.follows .mixedOrders = true) (S : List (Nat × (World → Prop)))
    (h : DW P ops Q S ops.size (Array.replicate ops.size false) n env { w with drawn := w.drawn + 1 }) : CW P (.region id ops true) Q n env w := fun a ha =>
  wp_region_any hm (wpAny_of_D _ _ _ _ (h a ha))

theorem DW.sub {env' : Env} (hs : Wk.sub env' env) (h : DW P ops Q S fuel listed n env' w) : DW P ops Q S fuel listed n env w := fun a ha => h a (ha.sub hs)

theorem DW.take {T : World → Prop} (i : Nat) {oi : Oper} {d : Nat} (v : Value) (hi : ops[i]? = some oi) (hk : knowsOp n env oi = true) (hd : oi.dst = some d)
    (hg : wantedE ops env oi = some true) (hT : (∀ w, T w) ∨ (i, T) ∈ S) (hf : (Region.noSelect ops && Region.free .any ops listed i && (Region.ready .any ops listed).contains i) = true)
    (hQ : Deaf Q) (hr : ∀ w', T w' → (execOp (ev env) oi).run P w' = .ok (.value v) w') (hw : T w)
    (h : DW P ops Q S fuel (listed.setIfInBounds i true) n ((d, v) :: env) w) : DW P ops Q S (fuel + 1) listed n env w := fun a ha => by
  simp only [Bool.and_eq_true] at hf
  obtain ⟨⟨hs, hf⟩, hc⟩ := hf
  refine wpD_first (v := v) hi hT (Region.noSelect_spec hs) (fun c a w hq => hQ c _ _ w hq) fuel listed a w (Region.free_spec hi hf) (by simpa using hc) ?_ hw ?_
  · exact .inl ⟨ha.wanted hg, fun w' hw' => by rw [ha.exec hk]; exact hr w' hw'⟩
  · rw [hd]; exact h _ (ha.put ((knowsOp_spec hk).2.2 d hd) v)

theorem DW.skip (i : Nat) {oi : Oper} {d : Nat} (hi : ops[i]? = some oi) (hk : decide (d < n) = true) (hd : oi.dst = some d)
    (hg : wantedE ops env oi = some false) (hf : (Region.noSelect ops && Region.free .any ops listed i && (Region.ready .any ops listed).contains i) = true)
    (hQ : Deaf Q) (h : DW P ops Q S fuel (listed.setIfInBounds i true) n ((d, undef) :: env) w) : DW P ops Q S (fuel + 1) listed n env w := fun a ha => by
  simp only [Bool.and_eq_true] at hf
  obtain ⟨⟨hs, hf⟩, hc⟩ := hf
  refine wpD_first (T := fun _ => True) (v := undef) hi (.inl fun _ => trivial) (Region.noSelect_spec hs) (fun c a w hq => hQ c _ _ w hq) fuel listed a w (Region.free_spec hi hf) (by simpa using hc) ?_ trivial ?_
  · exact .inr ⟨ha.wanted hg, rfl⟩
  · rw [hd]; exact h _ (ha.put (of_decide_eq_true hk) undef)

/-- The only operation that may come up. -/
def DOp (P : Program) (ops : Array Oper) (Q : Exit → Act → World → Prop) (S : List (Nat × (World → Prop))) (fuel : Nat) (listed : Array Bool) (i : Nat) (n : Nat) (env : Env) (w : World) : Prop :=
  ∀ a, Agr n env a → wpOp P ops Q i (fun a' w' => owed ops i w w' S ∧ wpD P ops Q S fuel (listed.setIfInBounds i true) a' w') a w

theorem DW.only (i : Nat) (hr : Region.ready .any ops listed = [i]) (h : DOp P ops Q S fuel listed i n env w) : DW P ops Q S (fuel + 1) listed n env w := fun a ha => by
  refine ⟨fun h0 => (by rw [hr] at h0; cases h0), fun j hj => ?_⟩
  rw [hr] at hj
  obtain rfl := List.mem_singleton.1 hj
  exact h a ha
theorem DW.two (i j : Nat) (hr : Region.ready .any ops listed = [i, j]) (h : DOp P ops Q S fuel listed i n env w) (h' : DOp P ops Q S fuel listed j n env w) :
    DW P ops Q S (fuel + 1) listed n env w := fun a ha => by
  refine ⟨fun h0 => (by rw [hr] at h0; cases h0), fun k hk => ?_⟩
  rw [hr] at hk
  simp only [List.mem_cons, List.not_mem_nil, or_false] at hk
  rcases hk with rfl | rfl
  · exact h a ha
  · exact h' a ha
theorem DW.three (i j l : Nat) (hr : Region.ready .any ops listed = [i, j, l]) (h : DOp P ops Q S fuel listed i n env w) (h' : DOp P ops Q S fuel listed j n env w)
    (h'' : DOp P ops Q S fuel listed l n env w) : DW P ops Q S (fuel + 1) listed n env w := fun a ha => by
  refine ⟨fun h0 => (by rw [hr] at h0; cases h0), fun k hk => ?_⟩
  rw [hr] at hk
  simp only [List.mem_cons, List.not_mem_nil, or_false] at hk
  rcases hk with rfl | rfl | rfl
  · exact h a ha
  · exact h' a ha
  · exact h'' a ha
theorem DW.done (hr : Region.ready .any ops listed = []) (h : EX .normal Q n env w) : DW P ops Q S fuel listed n env w := fun a ha => by
  cases fuel with
  | zero => exact ⟨hr, h a ha⟩
  | succ f => exact ⟨fun _ => h a ha, by rw [hr]; simp⟩

theorem DOp.val {i : Nat} {oi : Oper} {d : Nat} (v : Value) {w' : World} (hi : ops[i]? = some oi) (hk : knowsOp n env oi = true) (hd : oi.dst = some d) (hg : wantedE ops env oi = some true)
    (hr : (execOp (ev env) oi).run P w = .ok (.value v) w') (ho : owed ops i w w' S) (h : DW P ops Q S fuel (listed.setIfInBounds i true) n ((d, v) :: env) w') : DOp P ops Q S fuel listed i n env w := fun a ha => by
  unfold wpOp
  simp only [hi]
  rw [if_pos (ha.wanted hg)]
  refine .inl ?_
  unfold Oper.wp
  rw [ha.exec hk, hr, Oper.upon_value, hd]
  exact ⟨ho, h _ (ha.put ((knowsOp_spec hk).2.2 d hd) v)⟩
theorem DOp.val0 {i : Nat} {oi : Oper} (v : Value) {w' : World} (hi : ops[i]? = some oi) (hk : knowsOp n env oi = true) (hd : oi.dst = none) (hg : wantedE ops env oi = some true)
    (hr : (execOp (ev env) oi).run P w = .ok (.value v) w') (ho : owed ops i w w' S) (h : DW P ops Q S fuel (listed.setIfInBounds i true) n env w') : DOp P ops Q S fuel listed i n env w := fun a ha => by
  unfold wpOp
  simp only [hi]
  rw [if_pos (ha.wanted hg)]
  refine .inl ?_
  unfold Oper.wp
  rw [ha.exec hk, hr, Oper.upon_value, hd]
  exact ⟨ho, h _ ha⟩
theorem DOp.unit {i : Nat} {oi : Oper} {w' : World} (hi : ops[i]? = some oi) (hk : knowsOp n env oi = true) (hd : oi.dst = none) (hg : wantedE ops env oi = some true)
    (hr : (execOp (ev env) oi).run P w = .ok .skip w') (ho : owed ops i w w' S) (h : DW P ops Q S fuel (listed.setIfInBounds i true) n env w') : DOp P ops Q S fuel listed i n env w := fun a ha => by
  unfold wpOp
  simp only [hi]
  rw [if_pos (ha.wanted hg)]
  refine .inl ?_
  unfold Oper.wp
  rw [ha.exec hk, hr, Oper.upon_skip, hd]
  exact ⟨ho, h _ ha⟩
theorem DOp.call {i : Nat} {oi : Oper} {d : Nat} {f : FuncId} {args : Array Value} {R : Ending → World → Prop} (hi : ops[i]? = some oi) (hk : knowsOp n env oi = true) (hd : oi.dst = some d)
    (hg : wantedE ops env oi = some true) (hr : (execOp (ev env) oi).run P w = .ok (.enter f args) w) (hc : Calls P f args w R)
    (h : ∀ e w', R e w' → ∃ v, e = .returned v ∧ owed ops i w w' S ∧ DW P ops Q S fuel (listed.setIfInBounds i true) n ((d, v) :: env) w') : DOp P ops Q S fuel listed i n env w := fun a ha => by
  unfold wpOp
  simp only [hi]
  rw [if_pos (ha.wanted hg)]
  refine .inl ?_
  unfold Oper.wp
  rw [ha.exec hk, hr, Oper.upon_enter, hd]
  refine hc.mono fun e w' he => ?_
  obtain ⟨v, rfl, ho, hv⟩ := h e w' he
  exact ⟨ho, hv _ (ha.put ((knowsOp_spec hk).2.2 d hd) v)⟩
end
end Go.Wk
