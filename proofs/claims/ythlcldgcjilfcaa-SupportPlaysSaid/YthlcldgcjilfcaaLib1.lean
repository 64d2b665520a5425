/-
  A small calculus over the kit's walk: frames as lists of known slots, worlds as a read-only part and an owned part. Nothing here names a program.
-/
import Derived.ProofKit
import Derived.Orders
import Derived.OrdersHeld
import Derived.IntWalk
namespace Go.Wk
open Go

/-! ### Frames: what is known of the temporaries -/
abbrev Env := List (Nat × Value)

structure Agr (n : Nat) (env : Env) (a : Act) : Prop where
  size : a.tmps.size = n
  defers : a.defers = []
  get : ∀ t v, env.lookup t = some v → a.tmps[t]? = some v

def ev (env : Env) : Operand → Value
  | .tmp t => (env.lookup t).getD undef
  | .const v => v
  | .global g => .pointer (some ⟨g, 0, none⟩)
  | .func f => .func (.func f) #[] #[]

def knows (env : Env) : Operand → Bool
  | .tmp t => (env.lookup t).isSome
  | _ => true

def knowsOp (n : Nat) (env : Env) (o : Oper) : Bool :=
  o.op.operands.all (knows env) && (match o.op with | .select .. => false | _ => true) && (match o.dst with | some d => decide (d < n) | none => true)

/-- The guard of an operation, asked of what is known. -/
def wantedE (ops : Array Oper) (env : Env) (o : Oper) : Option Bool :=
  match o.guard with
  | none => some true
  | some (j, want) =>
    match (ops[j]?).bind (·.dst) with
    | some t => match env.lookup t with
      | some (.bool b) => some (b == want)
      | some _ => some false
      | none => none
    | none => none

theorem Agr.eval {n : Nat} {env : Env} {a : Act} (h : Agr n env a) {x : Operand} (hk : knows env x = true) : a.eval x = ev env x := by
  cases x with
  | tmp t =>
    simp only [knows] at hk
    obtain ⟨v, hv⟩ := Option.isSome_iff_exists.1 hk
    have := h.get t v hv
    simp [Act.eval, ev, hv, this]
  | _ => rfl

theorem knowsOp_spec {n : Nat} {env : Env} {o : Oper} (h : knowsOp n env o = true) :
    (∀ x ∈ o.op.operands, knows env x = true) ∧ (∀ cs b, o.op ≠ .select cs b) ∧ (∀ d, o.dst = some d → d < n) := by
  unfold knowsOp at h
  simp only [Bool.and_eq_true] at h
  obtain ⟨⟨h1, h2⟩, h3⟩ := h
  refine ⟨fun x hx => Array.all_eq_true_iff_forall_mem.1 h1 x hx, fun cs b e => ?_, fun d e => ?_⟩
  · rw [e] at h2; simp at h2
  · rw [e] at h3; simpa using h3

theorem Agr.exec {n : Nat} {env : Env} {a : Act} (h : Agr n env a) {o : Oper} (hk : knowsOp n env o = true) : execOp a.eval o = execOp (ev env) o :=
  execOp_congr o (knowsOp_spec hk).2.1 fun x hx => h.eval ((knowsOp_spec hk).1 x hx)

theorem Agr.put {n : Nat} {env : Env} {a : Act} (h : Agr n env a) {d : Nat} (hd : d < n) (v : Value) : Agr n ((d, v) :: env) (a.put (some d) v) := by
  refine ⟨by simp [Act.put, h.size], h.defers, fun t u hu => ?_⟩
  simp only [Act.put]
  simp only [List.lookup_cons] at hu
  split at hu
  · rename_i e
    have e' : t = d := by simpa using e
    subst e'
    simp only [Option.some.injEq] at hu
    subst hu
    rw [Array.getElem?_setIfInBounds_self_of_lt (by rw [h.size]; exact hd)]
  · rename_i e
    have e' : ¬ d = t := by intro e2; subst e2; simp at e
    rw [Array.getElem?_setIfInBounds_ne e']
    exact h.get t u hu

theorem Agr.wanted {n : Nat} {env : Env} {a : Act} (h : Agr n env a) {ops : Array Oper} {o : Oper} {b : Bool} (hw : wantedE ops env o = some b) :
    Region.wanted o (yielded ops a.tmps) = b := by
  unfold wantedE at hw
  unfold Region.wanted
  cases hg : o.guard with
  | none => simpa [hg] using hw
  | some g =>
    obtain ⟨j, want⟩ := g
    simp only [hg] at hw
    simp only [yielded]
    cases hd : (ops[j]?).bind (·.dst) with
    | none => simp [hd] at hw
    | some t =>
      simp only [hd] at hw
      simp only [Option.bind_some]
      cases hl : env.lookup t with
      | none => simp [hl] at hw
      | some v =>
        have hv := h.get t v hl
        simp only [hl] at hw
        rw [hv]
        cases v <;> simp_all

/-- What is known may be forgotten. -/
def sub : Env → Env → Prop
  | [], _ => True
  | (t, v) :: r, e => e.lookup t = some v ∧ sub r e

theorem sub_spec {e : Env} : ∀ {e' : Env}, sub e' e → ∀ t v, e'.lookup t = some v → e.lookup t = some v
  | [], _, t, v, h => by simp at h
  | (k, u) :: r, hs, t, v, h => by
    simp only [List.lookup_cons] at h
    split at h
    · rename_i e1
      have e2 : t = k := by simpa using e1
      subst e2
      simp only [Option.some.injEq] at h
      subst h
      exact hs.1
    · exact sub_spec hs.2 t v h

theorem Agr.sub {n : Nat} {e e' : Env} {a : Act} (h : Agr n e a) (hs : sub e' e) : Agr n e' a :=
  ⟨h.size, h.defers, fun t v hv => h.get t v (sub_spec hs t v hv)⟩

theorem lk_int {env : Env} {t : Nat} {k : IntKind} {x y : Int} (h : env.lookup t = some (.int k x)) (e : x = y) : env.lookup t = some (.int k y) := e ▸ h
theorem lk_val {env : Env} {t : Nat} {x y : Value} (h : env.lookup t = some x) (e : x = y) : env.lookup t = some y := e ▸ h

/-! ### Code -/
def CW (P : Program) (c : Code) (Q : Exit → Act → World → Prop) (n : Nat) (env : Env) (w : World) : Prop := ∀ a, Agr n env a → c.wp P Q a w
def EX (e : Exit) (Q : Exit → Act → World → Prop) (n : Nat) (env : Env) (w : World) : Prop := ∀ a, Agr n env a → Q e a w

section
variable {P : Program} {Q Q' : Exit → Act → World → Prop} {n : Nat} {env : Env} {w : World}

theorem CW.sub {c : Code} {env' : Env} (hs : sub env' env) (h : CW P c Q n env' w) : CW P c Q n env w := fun a ha => h a (ha.sub hs)
theorem CW.seq {x y : Code} (h : CW P x (Exit.then (y.wp P Q) Q) n env w) : CW P (.seq x y) Q n env w := fun a ha => wp_seq (h a ha)
theorem CW.skip (h : EX .normal Q n env w) : CW P .skip Q n env w := fun a ha => wp_skip (h a ha)
theorem CW.ret (h : EX .ret Q n env w) : CW P .ret Q n env w := fun a ha => wp_ret (h a ha)
theorem CW.exit {id : Nat} (h : EX (.exit id) Q n env w) : CW P (.exit id) Q n env w := fun a ha => wp_exit (h a ha)
theorem CW.block {id : Nat} {c : Code} (h : CW P c (Exit.inBlock id Q) n env w) : CW P (.block id c) Q n env w := fun a ha => wp_block (h a ha)
theorem CW.cond {c : Operand} {x y : Code} (t : Bool) (hk : knows env c = true) (hc : ev env c = .bool t) (h1 : t = true → CW P x Q n env w)
    (h2 : t = false → CW P y Q n env w) : CW P (.cond c x y) Q n env w := fun a ha =>
  wp_cond_split ((ha.eval hk).trans hc) (fun e => h1 e a ha) (fun e => h2 e a ha)
theorem CW.cond_t {c : Operand} {x y : Code} (hk : knows env c = true) (hc : ev env c = .bool true) (h1 : CW P x Q n env w) : CW P (.cond c x y) Q n env w := fun a ha =>
  wp_cond_true ((ha.eval hk).trans hc) (h1 a ha)
theorem CW.cond_f {c : Operand} {x y : Code} (hk : knows env c = true) (hc : ev env c = .bool false) (h1 : CW P y Q n env w) : CW P (.cond c x y) Q n env w := fun a ha =>
  wp_cond_false ((ha.eval hk).trans hc) (h1 a ha)
theorem CW.mono {c : Code} (h : CW P c Q n env w) (hq : ∀ e a w, Q e a w → Q' e a w) : CW P c Q' n env w := fun a ha => wp_mono (h a ha) hq

/-- A cut: behind x it is enough that some of a family of frames and worlds is there. -/
theorem CW.cut {β : Type} {x y : Code} (E : β → Env) (J : β → World → Prop)
    (h : CW P x (Exit.then (fun a w => ∃ b, Agr n (E b) a ∧ J b w) Q) n env w) (k : ∀ b w, J b w → CW P y Q n (E b) w) : CW P (.seq x y) Q n env w :=
  fun a ha => wp_seq (wp_mono (h a ha) (fun e a w hq => by
    cases e with
    | normal => obtain ⟨b, hb, hj⟩ := hq; exact k b w hj a hb
    | _ => exact hq))

theorem CW.loop {β : Type} {c : Code} (E : β → Env) (J : β → World → Prop) (μ : β → Nat) (b : β) (hs : Wk.sub (E b) env) (hj : J b w)
    (round : ∀ b w, J b w → CW P c (Exit.then (fun a w' => ∃ b', Agr n (E b') a ∧ J b' w' ∧ μ b' < μ b) Q) n (E b) w) : CW P (.loop c) Q n env w := fun a ha => by
  intro fr k cs
  have key : ∀ m, ∀ (b : β) a w, μ b = m → Agr n (E b) a → J b w → ∃ e a' w', Q e a' w' ∧ Arrives P (lone (fr.at a (.code c :: .inLoop c :: k)) cs w) fr k cs e a' w' := by
    intro m
    induction m using Nat.strongRecOn with
    | _ m ih =>
      intro b a w hb ha hj
      obtain ⟨e, a', w', hq, harr⟩ := round b w hj a ha fr (.inLoop c :: k) cs
      cases e with
      | normal =>
        obtain ⟨b', hb', hj', hlt⟩ := hq
        obtain ⟨e2, a2, w2, hq2, harr2⟩ := ih (μ b') (hb ▸ hlt) b' a' w' rfl hb' hj'
        exact ⟨e2, a2, w2, hq2, .of_steps (Steps.trans harr (.one step_inLoop)) harr2⟩
      | exit id => exact ⟨_, a', w', hq, .pass (x := .inLoop c) rfl (fun _ _ => .inl (by simp)) harr⟩
      | goto l => exact ⟨_, a', w', hq, .pass (x := .inLoop c) rfl (fun _ _ => .inl (by simp)) harr⟩
      | ret => exact ⟨_, a', w', hq, .pass (x := .inLoop c) rfl (fun _ _ => .inl (by simp)) harr⟩
      | panic ch => exact ⟨_, a', w', hq, .pass (x := .inLoop c) rfl (fun _ _ => .inl (by simp)) harr⟩
      | outgrown => exact ⟨_, a', w', hq, .pass (x := .inLoop c) rfl (fun _ _ => .inl (by simp)) harr⟩
  obtain ⟨e, a', w', hq, harr⟩ := key _ b a w rfl (ha.sub hs) hj
  exact ⟨e, a', w', hq, .of_steps (.one step_loop) harr⟩
end
end Go.Wk
