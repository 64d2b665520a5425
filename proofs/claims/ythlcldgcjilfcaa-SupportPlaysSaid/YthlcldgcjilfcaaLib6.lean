/-
  The calculus, sixth part: stores; own slices written, cut and cleared; slice expressions.
-/
import Derived.Test.YthlcldgcjilfcaaLib5
namespace Go.Wk
open Go

variable {S : Type} {E : Enc S}

theorem flat_set (E : Enc S) : ∀ (xs : List S) (i : Nat) (s : S), i < xs.length → flat E (xs.set i s) = (flat E xs).take (i * E.sz) ++ E.enc s ++ (flat E xs).drop (i * E.sz + E.sz)
  | [], i, s, h => by simp at h
  | x :: r, 0, s, _ => by
    simp only [flat, List.set_cons_zero, List.flatMap_cons, Nat.zero_mul, List.take_zero, List.nil_append, Nat.zero_add]
    rw [List.drop_append_of_le_length (by rw [E.len]; exact Nat.le_refl _)]
    have : (E.enc x).drop E.sz = [] := List.drop_of_length_le (by rw [E.len]; exact Nat.le_refl _)
    rw [this]; rfl
  | x :: r, i + 1, s, h => by
    have ih := flat_set E r i s (by simpa using h)
    simp only [flat, List.set_cons_succ, List.flatMap_cons] at ih ⊢
    rw [ih]
    have e1 : (i + 1) * E.sz = (E.enc x).length + i * E.sz := by rw [E.len, Nat.add_mul]; omega
    have e2 : (E.enc x).length + i * E.sz + E.sz = (E.enc x).length + (i * E.sz + E.sz) := by omega
    rw [e1, e2, List.take_length_add_append, List.drop_length_add_append]
    simp
theorem flat_take (E : Enc S) (xs : List S) (i : Nat) (h : i ≤ xs.length) : flat E (xs.take i) = (flat E xs).take (i * E.sz) := by
  have e : flat E xs = flat E (xs.take i) ++ flat E (xs.drop i) := by rw [← flat_append, List.take_append_drop]
  rw [e]
  have : i * E.sz = (flat E (xs.take i)).length := by rw [flat_length, List.length_take, Nat.min_eq_left h]
  rw [this]
  exact List.take_left.symm

section
variable {P : Program} {ops : Array Oper} {Q : Exit → Act → World → Prop} {o : Oper} {rest : List Oper} {n : Nat} {env : Env} {w w' : World} {K : Key} {h M : PH}

def sizeT (P : Program) (t : TypeId) (n : Nat) : Bool := (P.info? t).map (·.size) == some n
theorem run_sizeT {t k : Nat} (ht : sizeT P t k = true) : (sizeOf t).run P w = .ok k w := by
  unfold sizeT at ht
  cases hi : P.info? t with
  | none => simp [hi] at ht
  | some i => simp [hi] at ht; simp [sizeOf, typeInfo, hi, ht]

theorem q_store {x y : Operand} {t : TypeId} {b off : Nat} {cs : Array Value} {et : TypeId} {v : Value} {vs : List Value} (ho : o.op = .store t x y) (ht : sizeT P t vs.length = true)
    (hx : ev env x = .pointer (some ⟨b, off, none⟩)) (hy : ev env y = v) (hv : v.cells.toList = vs) (h1 : ∀ u ∈ vs, u.oneCell' = true) (hb : PH.all w b = some (.cells cs et (0, 0))) (hoff : off + vs.length ≤ cs.size) :
    (execOp (ev env) o).run P w = .ok .skip (w.setRow b (cs.toList.take off ++ vs ++ cs.toList.drop (off + vs.length)).toArray) := by
  simp only [execOp, ho]
  refine ru ?_
  rw [hx, hy]
  have hst := run_storeCells_at P b off et vs 0 cs w hb (by simpa using hoff) h1
  simp only [Nat.add_zero] at hst
  have hsz : v.cells.size = vs.length := by rw [← hv]; simp
  simp [Instr.storeAt, Instr.sureAddr, storeVar, run_sizeT ht, hsz, hv, hst]

theorem WL.store {x y : Operand} {t : TypeId} {b off : Nat} {cs : Array Value} (cs' : Array Value) {et : TypeId} {v : Value} {vs : List Value} (G : Wld K w h M) (hb : M b = some (.cells cs et (0, 0)))
    (ho : o.op = .store t x y) (ht : sizeT P t vs.length = true) (hk : knowsOp n env o = true) (hd : o.dst = none) (hg : wantedE ops env o = some true)
    (hx : ev env x = .pointer (some ⟨b, off, none⟩)) (hy : ev env y = v) (hv : v.cells.toList = vs) (h1 : ∀ u ∈ vs, u.oneCell' = true) (hoff : off + vs.length ≤ cs.size)
    (hc : (cs.toList.take off ++ vs ++ cs.toList.drop (off + vs.length)).toArray = cs')
    (next : ∀ w', Wld K w' h (M.set b (.cells cs' et (0, 0))) → WL P ops Q rest n env w') : WL P ops Q (o :: rest) n env w :=
  WL.unit hk hd hg (q_store ho ht hx hy hv h1 (G.own _ _ hb) hoff) (next _ (by subst hc; exact G.setRow _ hb))

theorem DOp.store {S' : List (Nat × (World → Prop))} {fuel : Nat} {listed : Array Bool} {i : Nat} {x y : Operand} {t : TypeId} {b off : Nat} {cs : Array Value} (cs' : Array Value) {et : TypeId} {v : Value} {vs : List Value} (G : Wld K w h M) (hb : M b = some (.cells cs et (0, 0)))
    (hi : ops[i]? = some o) (ho : o.op = .store t x y) (ht : sizeT P t vs.length = true) (hk : knowsOp n env o = true) (hd : o.dst = none) (hg : wantedE ops env o = some true)
    (hx : ev env x = .pointer (some ⟨b, off, none⟩)) (hy : ev env y = v) (hv : v.cells.toList = vs) (h1 : ∀ u ∈ vs, u.oneCell' = true) (hoff : off + vs.length ≤ cs.size)
    (hc : (cs.toList.take off ++ vs ++ cs.toList.drop (off + vs.length)).toArray = cs') (how : ∀ w', Wld K w' h (M.set b (.cells cs' et (0, 0))) → owed ops i w w' S')
    (next : ∀ w', Wld K w' h (M.set b (.cells cs' et (0, 0))) → DW P ops Q S' fuel (listed.setIfInBounds i true) n env w') : DOp P ops Q S' fuel listed i n env w := by
  have G' : Wld K (w.setRow b (cs.toList.take off ++ vs ++ cs.toList.drop (off + vs.length)).toArray) h (M.set b (.cells cs' et (0, 0))) := by subst hc; exact G.setRow _ hb
  exact DOp.unit hi hk hd hg (q_store ho ht hx hy hv h1 (G.own _ _ hb) hoff) (how _ G') (next _ G')

/-- An element of an own slice is written. -/
theorem Own.set {e : TypeId} {M0 : PH} {a : Option Addr} {cap : Nat} {xs : List S} (ow : Own e E M0 M a cap xs) {i : Nat} (hi : i < xs.length) (s : S) :
    ∃ g cs, a = some ⟨g, 0, none⟩ ∧ M g = some (.cells cs e (0, 0)) ∧ i * E.sz + E.sz ≤ cs.size ∧
      Own e E M0 (M.set g (.cells (cs.toList.take (i * E.sz) ++ E.enc s ++ cs.toList.drop (i * E.sz + E.sz)).toArray e (0, 0))) a cap (xs.set i s) := by
  rcases ow with ⟨_, _, rfl, _⟩ | ⟨g, cur, rfl, h0, rfl, hx, hc, hs, ht⟩
  · simp at hi
  · have hle : i * E.sz + E.sz ≤ xs.length * E.sz := by
      have : (i + 1) * E.sz ≤ xs.length * E.sz := Nat.mul_le_mul_right _ hi
      rwa [Nat.add_mul, Nat.one_mul] at this
    have hle2 : xs.length * E.sz ≤ cur.size := Nat.le_trans (Nat.mul_le_mul_right _ hx) hs
    refine ⟨g, cur, rfl, PH.set_same _ _ _, by omega, .inr ⟨g, _, rfl, h0, PH.set_set _ _ _ _, by simpa using hx, hc, ?_, ?_⟩⟩
    · simp only [List.size_toArray, List.length_append, List.length_take, List.length_drop, Array.length_toList, E.len]; omega
    · rw [List.length_set, flat_set E xs i s hi, ← ht]
      rw [List.take_take, List.drop_take, Nat.min_eq_left (by omega)]
      have hl : (cur.toList.take (i * E.sz) ++ E.enc s).length = i * E.sz + E.sz := by simp [E.len]; omega
      rw [List.take_append, hl, List.take_of_length_le (by omega)]

theorem Own.take {e : TypeId} {M0 : PH} {a : Option Addr} {cap : Nat} {xs : List S} (ow : Own e E M0 M a cap xs) (i : Nat) (hi : i ≤ xs.length) : Own e E M0 M a cap (xs.take i) := by
  rcases ow with ⟨h1, h2, rfl, h4⟩ | ⟨g, cur, rfl, h0, rfl, hx, hc, hs, ht⟩
  · exact .inl ⟨h1, h2, by simp, h4⟩
  · refine .inr ⟨g, cur, rfl, h0, rfl, by simp; omega, hc, hs, ?_⟩
    rw [flat_take E xs i hi, ← ht, List.take_take, List.length_take, Nat.min_eq_left hi, Nat.min_eq_left (Nat.mul_le_mul_right _ hi)]
theorem Own.cap_le {e : TypeId} {M0 : PH} {a : Option Addr} {cap : Nat} {xs : List S} (ow : Own e E M0 M a cap xs) : xs.length ≤ cap := by
  rcases ow with ⟨_, _, rfl, _⟩ | ⟨g, cur, _, _, _, hx, _⟩
  · simp
  · exact hx

theorem WL.storeE {x y : Operand} {t : TypeId} {v : Value} {e : TypeId} {M0 : PH} {a : Option Addr} {cap : Nat} {xs : List S} {i : Nat} (s : S) (G : Wld K w h M) (ow : Own e E M0 M a cap xs) (hi : i < xs.length)
    (ho : o.op = .store t x y) (ht : sizeT P t E.sz = true) (hk : knowsOp n env o = true) (hd : o.dst = none) (hg : wantedE ops env o = some true)
    (hx : ev env x = eptr a (i * E.sz)) (hy : ev env y = v) (hv : v.cells.toList = E.enc s)
    (next : ∀ w' M', Wld K w' h M' → Own e E M0 M' a cap (xs.set i s) → WL P ops Q rest n env w') : WL P ops Q (o :: rest) n env w := by
  obtain ⟨g, cs, rfl, hb, hsz, ow'⟩ := ow.set hi s
  refine WL.unit hk hd hg (q_store (vs := E.enc s) (b := g) (off := i * E.sz) ho (by rw [E.len]; exact ht) (hx.trans (by simp [eptr])) hy hv (E.one s) (G.own _ _ hb) (by rw [E.len]; exact hsz)) ?_
  have G' := G.setRow (cs.toList.take (i * E.sz) ++ E.enc s ++ cs.toList.drop (i * E.sz + (E.enc s).length)).toArray hb
  rw [E.len] at G' ⊢
  exact next _ _ G' ow'
theorem DOp.storeE {S' : List (Nat × (World → Prop))} {fuel : Nat} {listed : Array Bool} {j : Nat} {x y : Operand} {t : TypeId} {v : Value} {e : TypeId} {M0 : PH} {a : Option Addr} {cap : Nat} {xs : List S} {i : Nat} (s : S) (G : Wld K w h M) (ow : Own e E M0 M a cap xs) (hlt : i < xs.length)
    (hi : ops[j]? = some o) (ho : o.op = .store t x y) (ht : sizeT P t E.sz = true) (hk : knowsOp n env o = true) (hd : o.dst = none) (hg : wantedE ops env o = some true)
    (hx : ev env x = eptr a (i * E.sz)) (hy : ev env y = v) (hv : v.cells.toList = E.enc s) (how : ∀ w' M', Wld K w' h M' → owed ops j w w' S')
    (next : ∀ w' M', Wld K w' h M' → Own e E M0 M' a cap (xs.set i s) → DW P ops Q S' fuel (listed.setIfInBounds j true) n env w') : DOp P ops Q S' fuel listed j n env w := by
  obtain ⟨g, cs, rfl, hb, hsz, ow'⟩ := ow.set hlt s
  have G' := G.setRow (cs.toList.take (i * E.sz) ++ E.enc s ++ cs.toList.drop (i * E.sz + (E.enc s).length)).toArray hb
  refine DOp.unit hi hk hd hg (q_store (vs := E.enc s) (b := g) (off := i * E.sz) ho (by rw [E.len]; exact ht) (hx.trans (by simp [eptr])) hy hv (E.one s) (G.own _ _ hb) (by rw [E.len]; exact hsz)) (how _ _ G') ?_
  rw [E.len] at G' ⊢
  exact next _ _ G' ow'

/-! #### slice expressions -/
theorem run_bound {k : IntKind} {i y : Nat} {c : BoundsCode} (h : i ≤ y) : (Instr.sliceBound (.int k (i : Int)) y c).run P w = .ok i w := by
  simp only [Instr.sliceBound, asIntOf, Sem.run_bind, Sem.run_pure, Result.andThen_ok]
  rw [if_pos ⟨by omega, by omega⟩]
  simp
theorem run_sliceAt {t e sz : Nat} (ht : sliceT P t e sz = true) {a : Option Addr} {len cap : Nat} (v : Value) (lo hi mx : Option Value)
    (hs : (Instr.slice t (.slice a len cap) lo hi mx).run P w = .ok v w) : (Instr.sliceAt t (.slice a len cap) lo hi mx).run P w = .ok v w := by
  obtain ⟨h1, _⟩ := sliceT_spec ht
  simp [Instr.sliceAt, run_underlying h1, hs]
/-- s[:n:n] at the length n. -/
theorem q_clip {x a1 a2 : Operand} {t e sz : Nat} {a : Option Addr} {len cap : Nat} {k k' : IntKind} (ho : o.op = .slice t x none (some a1) (some a2)) (ht : sliceT P t e sz = true)
    (hx : ev env x = .slice a len cap) (h1 : ev env a1 = .int k (len : Int)) (h2 : ev env a2 = .int k' (len : Int)) (hc : len ≤ cap) : runs P env o w (.slice a len len) w := by
  unfold runs
  simp only [execOp, ho, Option.map_some, Option.map_none]
  refine rv ?_
  rw [hx, h1, h2]
  refine run_sliceAt ht _ _ _ _ ?_
  obtain ⟨g1, inf, g2, g3⟩ := sliceT_spec ht
  simp only [Instr.slice, Instr.sliceBounds, Sem.run_bind, run_underlying g1, Result.andThen_ok, run_bound hc, run_bound (Nat.le_refl len), Sem.run_pure]
  simp only [sizeOf, typeInfo, Sem.run_bind, run_program, g2, Result.andThen_ok, Sem.run_pure, Nat.sub_zero]
  by_cases hz : len = 0
  · simp [hz]
  · rw [if_neg hz]
    cases a with
    | none => simp
    | some ad => simp [Addr.add]
/-- s[:hi]. -/
theorem q_upto {x a1 : Operand} {t e sz : Nat} {a : Option Addr} {len cap hi : Nat} {k : IntKind} (ho : o.op = .slice t x none (some a1) none) (ht : sliceT P t e sz = true)
    (hx : ev env x = .slice a len cap) (h1 : ev env a1 = .int k (hi : Int)) (hc : hi ≤ cap) : runs P env o w (.slice a hi cap) w := by
  unfold runs
  simp only [execOp, ho, Option.map_some, Option.map_none]
  refine rv ?_
  rw [hx, h1]
  refine run_sliceAt ht _ _ _ _ ?_
  obtain ⟨g1, inf, g2, g3⟩ := sliceT_spec ht
  simp only [Instr.slice, Instr.sliceBounds, Sem.run_bind, run_underlying g1, Result.andThen_ok, run_bound hc, Sem.run_pure]
  simp only [sizeOf, typeInfo, Sem.run_bind, run_program, g2, Result.andThen_ok, Sem.run_pure, Nat.sub_zero]
  by_cases hz : cap = 0
  · simp [hz]
  · rw [if_neg hz]
    cases a with
    | none => simp
    | some ad => simp [Addr.add]
/-- The address behind lo elements. -/
def aft (a : Option Addr) (cap lo sz : Nat) : Option Addr := if cap = lo then a else a.map (·.add (lo * sz))
/-- s[lo:]. -/
theorem q_from {x a1 : Operand} {t e sz : Nat} {a : Option Addr} {len cap lo : Nat} {k : IntKind} (ho : o.op = .slice t x (some a1) none none) (ht : sliceT P t e sz = true)
    (hx : ev env x = .slice a len cap) (h1 : ev env a1 = .int k (lo : Int)) (hc : lo ≤ len) : runs P env o w (.slice (aft a cap lo sz) (len - lo) (cap - lo)) w := by
  unfold runs
  simp only [execOp, ho, Option.map_some, Option.map_none]
  refine rv ?_
  rw [hx, h1]
  refine run_sliceAt ht _ _ _ _ ?_
  obtain ⟨g1, inf, g2, g3⟩ := sliceT_spec ht
  simp only [Instr.slice, Instr.sliceBounds, Sem.run_bind, run_underlying g1, Result.andThen_ok, run_bound hc, Sem.run_pure]
  simp only [sizeOf, typeInfo, Sem.run_bind, run_program, g2, Result.andThen_ok, Sem.run_pure, g3, Option.isSome_none, Bool.false_eq_true, if_false, run_bound hc, aft]

/-- clear(s[i:]) of an own slice: what is ahead of i stays. -/
theorem WL.clearTail {x : Operand} {t e : TypeId} {z : Value} {M0 : PH} {a : Option Addr} {cap : Nat} {xs : List S} {i : Nat} (G : Wld K w h M) (ow : Own e E M0 M a cap xs) (hi : i ≤ xs.length)
    (ho : o.op = .call { callee := .builtin .clear, args := #[x], argTypes := #[t] }) (ht : sliceT P t e E.sz = true) (hz : (P.info? e).bind (·.zero) = some z) (hzs : z.cells.size = E.sz)
    (hz1 : ∀ u ∈ z.cells.toList, u.oneCell' = true) (hk : knowsOp n env o = true) (hd : o.dst = none) (hg : wantedE ops env o = some true)
    (hx : ev env x = .slice (aft a cap i E.sz) (xs.length - i) (cap - i))
    (next : ∀ w' M', Wld K w' h M' → Own e E M0 M' a cap (xs.take i) → WL P ops Q rest n env w') : WL P ops Q (o :: rest) n env w := by
  obtain ⟨g1, inf, g2, g3⟩ := sliceT_spec ht
  have hr0 : ∀ (v : Value) (W W' : World), (Builtin.clear_ #[t] o.type #[v]).run P W = .ok (.tuple #[]) W' → ev env x = v → (execOp (ev env) o).run P W = .ok (.value (.tuple #[])) W' := by
    intro v W W' hr hv
    simp only [execOp, ho, resolve, Sem.run_bind, Sem.run_pure, Result.andThen_ok, invoke, builtin, List.map_toArray, List.map_cons, List.map_nil, hv, hr]
  have owt := ow.take i hi
  by_cases hl : xs.length - i = 0
  · rw [hl] at hx
    refine WL.val0 (.tuple #[]) hk hd hg (hr0 _ w w ?_ hx) (next _ _ G owt)
    cases aft a cap i E.sz <;> simp [Builtin.clear_, run_underlying g1]
  · rcases ow with ⟨_, _, rfl, _⟩ | ⟨g, cur, rfl, h0, rfl, hxc, hc, hs, htk⟩
    · simp at hl
    · have hcap : ¬ cap = i := by omega
      have haft : aft (some ⟨g, 0, none⟩) cap i E.sz = some ⟨g, i * E.sz, none⟩ := by simp only [aft, if_neg hcap, Option.map_some, add_at]; simp
      rw [haft] at hx
      have hzl : (Builtin.zeroCells z.cells (xs.length - i)).toList.length = (xs.length - i) * E.sz := by rw [Array.length_toList, size_zeroCells, hzs]
      have hfit : i * E.sz + (Builtin.zeroCells z.cells (xs.length - i)).toList.length ≤ cur.size := by
        exact Nat.le_trans (by rw [hzl, ← Nat.add_mul]; exact Nat.mul_le_mul_right _ (by omega)) hs
      have hone : ∀ u ∈ (Builtin.zeroCells z.cells (xs.length - i)).toList, u.oneCell' = true := by
        intro u hu
        simp only [Builtin.zeroCells, Array.toList_map, List.mem_map] at hu
        obtain ⟨j, hj, rfl⟩ := hu
        have hpos : 0 < z.cells.size := by rw [hzs]; exact E.pos
        have hlt := Nat.mod_lt j hpos
        rw [getElem!_pos z.cells (j % z.cells.size) hlt]
        exact hz1 _ (by simp)
      have hst := run_storeCells_at P g (i * E.sz) e _ 0 cur w (G.own _ _ (PH.set_same M0 g _)) (by simpa using hfit) hone
      simp only [Nat.add_zero] at hst
      have G' := G.setRow (cur.toList.take (i * E.sz) ++ (Builtin.zeroCells z.cells (xs.length - i)).toList ++ cur.toList.drop (i * E.sz + (Builtin.zeroCells z.cells (xs.length - i)).toList.length)).toArray (PH.set_same M0 g _)
      rw [PH.set_set] at G'
      obtain ⟨m, hm⟩ : ∃ m, xs.length - i = m + 1 := ⟨xs.length - i - 1, by omega⟩
      refine WL.val0 (.tuple #[]) hk hd hg (hr0 _ w _ ?_ hx) (next _ _ G' (.inr ⟨g, _, rfl, h0, rfl, by simp; omega, hc, ?_, ?_⟩))
      · rw [hm] at hst ⊢
        simp [Builtin.clear_, run_underlying g1, run_zero hz, hst]
      · simp only [List.size_toArray, List.length_append, List.length_take, List.length_drop, Array.length_toList]
        rw [Array.length_toList] at hfit
        omega
      · have hle : i * E.sz ≤ cur.toList.length := by rw [Array.length_toList]; omega
        rw [flat_take E xs i hi, ← htk, List.take_take, List.length_take, Nat.min_eq_left hi, Nat.min_eq_left (Nat.mul_le_mul_right _ hi)]
        rw [List.append_assoc, List.take_append_of_le_length (by rw [List.length_take]; omega), List.take_take, Nat.min_self]
end
end Go.Wk
