/-
  The calculus, seventh part: function values; maps as operations; a call that leaves the owned part changed.
-/
import Derived.Test.YthlcldgcjilfcaaLib6
namespace Go.Wk
open Go

section
variable {P : Program} {ops : Array Oper} {Q : Exit → Act → World → Prop} {o : Oper} {rest : List Oper} {n : Nat} {env : Env} {w w' : World} {K : Key} {h M : PH}

/-- Function number f is entered when it is called. -/
def Enters (P : Program) (f : FuncId) : Prop := ∀ (args : Array Value) (u : World), (callFunc f args).run P u = .ok (.enter f args) u

theorem q_callv {x : Operand} {xs : Array Operand} {ts : Array TypeId} {f : FuncId} {caps args : Array Value} (he : Enters P f) (ho : o.op = .call { callee := .value x, args := xs, argTypes := ts })
    (hx : ev env x = .func (.func f) #[] caps) (ha : xs.map (ev env) = args) : (execOp (ev env) o).run P w = .ok (.enter f (args ++ caps)) w := by
  simp only [execOp, ho, resolve, hx, ha, Deferred.ofValue, Sem.run_bind, Sem.run_pure, Result.andThen_ok, Array.empty_append, invoke]
  exact he _ _

theorem WL.callv {d : Nat} {x : Operand} {xs : Array Operand} {ts : Array TypeId} {f : FuncId} {caps args : Array Value} {R : Ending → World → Prop} (he : Enters P f)
    (ho : o.op = .call { callee := .value x, args := xs, argTypes := ts }) (hx : ev env x = .func (.func f) #[] caps) (ha : xs.map (ev env) = args)
    (hk : knowsOp n env o = true) (hd : o.dst = some d) (hg : wantedE ops env o = some true) (hc : Calls P f (args ++ caps) w R)
    (h : ∀ e w', R e w' → ∃ v, e = .returned v ∧ WL P ops Q rest n ((d, v) :: env) w') : WL P ops Q (o :: rest) n env w :=
  WL.call hk hd hg (q_callv he ho hx ha) hc h

theorem WL.newL {d : Nat} {ob : Obj} (G : Wld K w h M) (hk : knowsOp n env o = true) (hd : o.dst = some d) (hg : wantedE ops env o = some true) (mk : Nat → Value)
    (hr : ∀ u : World, (execOp (ev env) o).run P u = .ok (.value (mk u.heap.size)) (u.alloc ob))
    (next : ∀ b w', M b = none → h b = none → Wld K w' h (M.set b ob) → PH.le (PH.all w) (PH.all w') → WL P ops Q rest n ((d, mk b) :: env) w') : WL P ops Q (o :: rest) n env w :=
  WL.val _ hk hd hg (hr w) (next _ _ G.new.1 G.new.2 (G.alloc ob) (le_all_alloc w ob))
theorem getD_mem {S : Type} {d : S} {xs : List S} {k : Nat} (h : k < xs.length) : xs.getD k d ∈ xs := by simp [List.getD, h]

/-! #### maps -/
variable {κ : Type} [DecidableEq κ] {d : TypeDesc} {ke : κ → Value} {es : Array MapEntry} {clk : Nat} {l : List (κ × Value)}

theorem q_lookup {x ix : Operand} {t : TypeId} {z : Value} {b : Nat} {k : κ} (ok : Bool) {v : Value} (ho : o.op = .lookup t x ix ok) (ht : mapT P t d z) (hx : ev env x = .map (some b)) (hi : ev env ix = ke k)
    (hb : PH.all w b = some (.map es clk)) (hm : MapIs d ke es clk l) (hv : (if ok then .tuple #[(l.lookup k).getD z, .bool (l.lookup k).isSome] else (l.lookup k).getD z) = v) : runs P env o w v w := by
  unfold runs
  simp only [execOp, ho]
  refine rv ?_
  rw [hx, hi, ← hv]
  exact run_lookup ht hb hm k ok

omit [DecidableEq κ] in
theorem q_lenMap {x : Operand} {t kt et : TypeId} {b : Nat} (ho : o.op = .call { callee := .builtin .len, args := #[x], argTypes := #[t] }) (ht : P.underlying t = some (.map kt et))
    (hx : ev env x = .map (some b)) (hb : PH.all w b = some (.map es clk)) (hm : MapIs d ke es clk l) : runs P env o w (.int .i64 (l.length : Int)) w := by
  unfold runs
  simp only [execOp, ho, resolve, Sem.run_bind, Sem.run_pure, Result.andThen_ok, invoke, builtin, List.map_toArray, List.map_cons, List.map_nil, hx, run_lenMap ht hb hm]

theorem WL.mapUpdate {x ix y : Operand} {t : TypeId} {z : Value} {b : Nat} {k : κ} {v : Value} (G : Wld K w h M) (hb : M b = some (.map es clk)) (hm : MapIs d ke es clk l)
    (ho : o.op = .mapUpdate t x ix y ∨ o.op = .insert t x ix y) (ht : mapT P t d z) (hx : ev env x = .map (some b)) (hi : ev env ix = ke k) (hy : ev env y = v)
    (hk : knowsOp n env o = true) (hd : o.dst = none) (hg : wantedE ops env o = some true)
    (next : ∀ w' es' clk', Wld K w' h (M.set b (.map es' clk')) → MapIs d ke es' clk' (mput l k v) → WL P ops Q rest n env w') : WL P ops Q (o :: rest) n env w := by
  obtain ⟨es', clk', hr, hm'⟩ := run_mapUpdate (P := P) ht (G.own _ _ hb) hm k v
  refine WL.unit hk hd hg ?_ (next _ es' clk' (G.setObj _ hb) hm')
  rcases ho with ho | ho <;>
  · simp only [execOp, ho]
    exact ru (by rw [hx, hi, hy]; exact hr)
theorem DOp.mapUpdate {S' : List (Nat × (World → Prop))} {fuel : Nat} {listed : Array Bool} {i : Nat} {x ix y : Operand} {t : TypeId} {z : Value} {b : Nat} {k : κ} {v : Value} (G : Wld K w h M) (hb : M b = some (.map es clk)) (hm : MapIs d ke es clk l)
    (hi' : ops[i]? = some o) (ho : o.op = .mapUpdate t x ix y) (ht : mapT P t d z) (hx : ev env x = .map (some b)) (hi : ev env ix = ke k) (hy : ev env y = v)
    (hk : knowsOp n env o = true) (hd : o.dst = none) (hg : wantedE ops env o = some true) (how : ∀ w' M', Wld K w' h M' → owed ops i w w' S')
    (next : ∀ w' es' clk', Wld K w' h (M.set b (.map es' clk')) → MapIs d ke es' clk' (mput l k v) → DW P ops Q S' fuel (listed.setIfInBounds i true) n env w') : DOp P ops Q S' fuel listed i n env w := by
  obtain ⟨es', clk', hr, hm'⟩ := run_mapUpdate (P := P) ht (G.own _ _ hb) hm k v
  have G' := G.setObj (.map es' clk') hb
  refine DOp.unit hi' hk hd hg ?_ (how _ _ G') (next _ es' clk' G' hm')
  simp only [execOp, ho]
  exact ru (by rw [hx, hi, hy]; exact hr)

theorem q_delete {x ix : Operand} {t kt : TypeId} {z : Value} {b : Nat} {k : κ} (ho : o.op = .call { callee := .builtin .delete, args := #[x, ix], argTypes := #[t, kt] }) (ht : mapT P t d z)
    (hx : ev env x = .map (some b)) (hi : ev env ix = ke k) (hb : PH.all w b = some (.map es clk)) (hm : MapIs d ke es clk l) :
    ∃ es', runs P env o w (.tuple #[]) { w with heap := w.heap.setIfInBounds b (.map es' clk) } ∧ MapIs d ke es' clk (l.filter fun p => p.1 ≠ k) := by
  obtain ⟨es', hr, hm'⟩ := run_delete (P := P) (ty := o.type) (kt' := kt) ht hb hm k
  refine ⟨es', ?_, hm'⟩
  unfold runs
  simp only [execOp, ho, resolve, Sem.run_bind, Sem.run_pure, Result.andThen_ok, invoke, builtin, List.map_toArray, List.map_cons, List.map_nil, hx, hi, hr]
theorem WL.delete {x ix : Operand} {t kt : TypeId} {z : Value} {b : Nat} {k : κ} (G : Wld K w h M) (hb : M b = some (.map es clk)) (hm : MapIs d ke es clk l)
    (ho : o.op = .call { callee := .builtin .delete, args := #[x, ix], argTypes := #[t, kt] }) (ht : mapT P t d z) (hx : ev env x = .map (some b)) (hi : ev env ix = ke k)
    (hk : knowsOp n env o = true) (hd : o.dst = none) (hg : wantedE ops env o = some true)
    (next : ∀ w' es', Wld K w' h (M.set b (.map es' clk)) → MapIs d ke es' clk (l.filter fun p => p.1 ≠ k) → WL P ops Q rest n env w') : WL P ops Q (o :: rest) n env w := by
  obtain ⟨es', hr, hm'⟩ := q_delete ho ht hx hi (G.own _ _ hb) hm
  exact WL.val0 _ hk hd hg hr (next _ es' (G.setObj _ hb) hm')
theorem DOp.delete {S' : List (Nat × (World → Prop))} {fuel : Nat} {listed : Array Bool} {i : Nat} {x ix : Operand} {t kt : TypeId} {z : Value} {b : Nat} {k : κ} (G : Wld K w h M) (hb : M b = some (.map es clk)) (hm : MapIs d ke es clk l)
    (hi' : ops[i]? = some o) (ho : o.op = .call { callee := .builtin .delete, args := #[x, ix], argTypes := #[t, kt] }) (ht : mapT P t d z) (hx : ev env x = .map (some b)) (hi : ev env ix = ke k)
    (hk : knowsOp n env o = true) (hd : o.dst = none) (hg : wantedE ops env o = some true) (how : ∀ w' M', Wld K w' h M' → owed ops i w w' S')
    (next : ∀ w' es', Wld K w' h (M.set b (.map es' clk)) → MapIs d ke es' clk (l.filter fun p => p.1 ≠ k) → DW P ops Q S' fuel (listed.setIfInBounds i true) n env w') : DOp P ops Q S' fuel listed i n env w := by
  obtain ⟨es', hr, hm'⟩ := q_delete ho ht hx hi (G.own _ _ hb) hm
  have G' := G.setObj (.map es' clk) hb
  exact DOp.val0 _ hi' hk hd hg hr (how _ _ G') (next _ es' G' hm')
end

/-! #### the owned part in layers -/
/-- Behind a call whose owned part is M' the world bears it; of what lay beside (blocks F of M0 onwards) nothing has turned. -/
structure Lay (F : List Nat) (M0 M : PH) : Prop where
  free : ∀ b ∈ F, M0 b = none
  rest : ∀ b, b ∉ F → M b = M0 b

theorem Lay.le {F : List Nat} {M0 M : PH} (l : Lay F M0 M) : PH.le M0 M := fun b o e => by
  by_cases hb : b ∈ F
  · rw [l.free b hb] at e; cases e
  · rw [l.rest b hb]; exact e
theorem Lay.set {F : List Nat} {M0 M : PH} (l : Lay F M0 M) {b : Nat} (hb : b ∈ F) (o : Obj) : Lay F M0 (M.set b o) :=
  ⟨l.free, fun x hx => by rw [PH.set_other _ _ (fun e => hx (by rw [e]; exact hb))]; exact l.rest x hx⟩
theorem Lay.new {F : List Nat} {M0 M : PH} (l : Lay F M0 M) {b : Nat} (hn : M b = none) (o : Obj) : Lay (b :: F) M0 (M.set b o) := by
  refine ⟨fun x hx => ?_, fun x hx => ?_⟩
  · cases hx with
    | head => exact none_of_le l.le hn
    | tail _ h => exact l.free x h
  · rw [PH.set_other _ _ (fun e => hx (by subst e; exact List.mem_cons_self))]
    exact l.rest x (fun h => hx (List.mem_cons_of_mem _ h))
theorem Lay.mono {F F' : List Nat} {M0 M : PH} (l : Lay F M0 M) (h : ∀ b ∈ F, b ∈ F') (h' : ∀ b ∈ F', M0 b = none) : Lay F' M0 M := ⟨h', fun b hb => l.rest b fun e => hb (h b e)⟩
theorem Lay.refl (M : PH) : Lay [] M M := ⟨by simp, fun _ _ => rfl⟩

/-- Two layers change places: what lay beneath lies on top. -/
def PH.without (M : PH) (F : List Nat) : PH := fun b => if b ∈ F then none else M b
theorem Lay.swap {F F' : List Nat} {M0 M1 M2 : PH} (l : Lay F M0 M1) (l' : Lay F' M1 M2) (hs : ∀ b ∈ F, M1 b ≠ none) :
    Lay F' M0 (M2.without F) ∧ Lay F (M2.without F) M2 ∧ (∀ b ∈ F', M2.without F b = M2 b) ∧ (∀ b ∈ F, M2 b = M1 b) := by
  have hd : ∀ b ∈ F', b ∉ F := fun b hb hf => hs b hf (l'.free b hb)
  refine ⟨⟨fun b hb => none_of_le l.le (l'.free b hb), fun b hb => ?_⟩, ⟨fun b hb => by simp [PH.without, hb], fun b hb => by simp [PH.without, hb]⟩,
    fun b hb => by simp [PH.without, hd b hb], fun b hb => l'.rest b fun h => hd b h hb⟩
  simp only [PH.without]
  split
  · rename_i hf; exact (l.free b hf).symm
  · rename_i hf; rw [l'.rest b hb, l.rest b hf]

variable {S : Type} {E : Enc S}
theorem Own.lay {t : TypeId} {M0 M : PH} {a : Option Addr} {cap : Nat} {xs : List S} (ow : Own t E M0 M a cap xs) : ∃ F, Lay F M0 M ∧ (∀ b ∈ F, M b ≠ none) ∧
    ∀ N0 N, Lay F N0 N → (∀ b ∈ F, N b = M b) → Own t E N0 N a cap xs := by
  rcases ow with ⟨h1, h2, h3, rfl⟩ | ⟨g, cur, ha, h0, rfl, r⟩
  · exact ⟨[], Lay.refl _, by simp, fun N0 N l _ => .inl ⟨h1, h2, h3, funext fun b => l.rest b (by simp)⟩⟩
  · refine ⟨[g], ⟨by simpa using h0, fun b hb => PH.set_other _ _ (by simpa using hb)⟩, by simp [PH.set], fun N0 N l hN => .inr ⟨g, cur, ha, l.free g (by simp), funext fun b => ?_, r⟩⟩
    by_cases hb : b = g
    · subst hb; rw [PH.set_same, hN b (by simp), PH.set_same]
    · rw [PH.set_other _ _ hb]; exact l.rest b (by simpa using hb)

theorem RetM.elim' {K : Key} {h : PH} {Φ : PH → PH → Value → Prop} {T : Value → World → Prop}
    (k : ∀ w' h' M' v, PH.le h h' → Wld K w' h' M' → Φ h' M' v → T v w') : ∀ e w', RetM K h Φ e w' → ∃ v, e = .returned v ∧ T v w' := RetM.elim k
theorem RetM.mono {K : Key} {h : PH} {Φ Φ' : PH → PH → Value → Prop} (hm : ∀ h' M' v, PH.le h h' → Φ h' M' v → Φ' h' M' v) : ∀ e w', RetM K h Φ e w' → RetM K h Φ' e w' :=
  fun _ _ ⟨h', M', v, he, hl, G, hΦ⟩ => ⟨h', M', v, he, hl, G, hm _ _ _ hl hΦ⟩
theorem RetM.elimD {K : Key} {h : PH} {w : World} {ops : Array Oper} {S' : List (Nat × (World → Prop))} {i : Nat} {Φ : PH → PH → Value → Prop} {T : Value → World → Prop}
    (ho : ∀ w' h' M' v, PH.le h h' → Wld K w' h' M' → Φ h' M' v → owed ops i w w' S')
    (k : ∀ w' h' M' v, PH.le h h' → Wld K w' h' M' → Φ h' M' v → T v w') : ∀ e w', RetM K h Φ e w' → ∃ v, e = .returned v ∧ owed ops i w w' S' ∧ T v w' :=
  fun _ w' ⟨h', M', v, he, hl, G, hΦ⟩ => ⟨v, he, ho w' h' M' v hl G hΦ, k w' h' M' v hl G hΦ⟩
end Go.Wk
