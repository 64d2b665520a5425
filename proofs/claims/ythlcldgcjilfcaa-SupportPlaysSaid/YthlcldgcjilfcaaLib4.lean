/-
  The calculus, fourth part: single operations.
-/
import Derived.Test.YthlcldgcjilfcaaLib3
namespace Go.Wk
open Go

section
variable {P : Program} {ops : Array Oper} {Q : Exit → Act → World → Prop} {o : Oper} {rest : List Oper} {n : Nat} {env : Env} {w w' : World} {K : Key} {h M hp : PH}

theorem bool_cases (b : Bool) : b = true ∨ b = false := by cases b <;> simp
theorem bne_true {α : Type} [BEq α] [LawfulBEq α] {x y : α} (h : (x != y) = true) : x ≠ y := bne_iff_ne.1 h
theorem bne_false {α : Type} [BEq α] [LawfulBEq α] {x y : α} (h : (x != y) = false) : x = y := by simpa using h
theorem not_true {b : Bool} (h : (!b) = true) : b = false := by simpa using h
theorem not_false {b : Bool} (h : (!b) = false) : b = true := by simpa using h

theorem rv {s : Sem Value} {v : Value} (hs : s.run P w = .ok v w') : (do let x ← s; pure (Next.value x) : Sem Next).run P w = .ok (.value v) w' := by simp [hs]
theorem ru {s : Sem Unit} (hs : s.run P w = .ok () w') : (do s; pure Next.skip : Sem Next).run P w = .ok .skip w' := by simp [hs]

/-- A value that is known by another name. -/
theorem WL.know (t : Nat) {x : Value} (y : Value) {l : List Oper} (h : env.lookup t = some x) (e : x = y) (next : WL P ops Q l n ((t, y) :: env) w) : WL P ops Q l n env w :=
  fun a ha => next a ⟨ha.size, ha.defers, fun u v hv => by
    simp only [List.lookup_cons] at hv
    split at hv
    · rename_i e1
      have e2 : u = t := by simpa using e1
      subst e2
      simp only [Option.some.injEq] at hv
      subst hv
      exact ha.get u y (e ▸ h)
    · exact ha.get u v hv⟩
theorem Agr.know {a : Act} (ha : Agr n env a) {t : Nat} {x y : Value} (h : env.lookup t = some x) (e : x = y) : Agr n ((t, y) :: env) a :=
  ⟨ha.size, ha.defers, fun u v hv => by
    simp only [List.lookup_cons] at hv
    split at hv
    · rename_i e1
      have e2 : u = t := by simpa using e1
      subst e2
      simp only [Option.some.injEq] at hv
      subst hv
      exact ha.get u y (e ▸ h)
    · exact ha.get u v hv⟩
theorem CW.know (t : Nat) {x : Value} (y : Value) {c : Code} (h : env.lookup t = some x) (e : x = y) (next : CW P c Q n ((t, y) :: env) w) : CW P c Q n env w :=
  fun a ha => next a (ha.know h e)
theorem DW.know {S : List (Nat × (World → Prop))} {fuel : Nat} {listed : Array Bool} (t : Nat) {x : Value} (y : Value) (h : env.lookup t = some x) (e : x = y)
    (next : DW P ops Q S fuel listed n ((t, y) :: env) w) : DW P ops Q S fuel listed n env w := fun a ha => next a (ha.know h e)

theorem q_int {k : IntKind} {x y : Int} (hr : (execOp (ev env) o).run P w = .ok (.value (.int k x)) w') (e : x = y) : runs P env o w (.int k y) w' := e ▸ hr
theorem q_bool {x y : Bool} (hr : (execOp (ev env) o).run P w = .ok (.value (.bool x)) w') (e : x = y) : runs P env o w (.bool y) w' := e ▸ hr
theorem q_val {x y : Value} (hr : (execOp (ev env) o).run P w = .ok (.value x) w') (e : x = y) : runs P env o w y w' := e ▸ hr

theorem wrap_i64 {x : Int} (h1 : -9223372036854775808 ≤ x) (h2 : x ≤ 9223372036854775807) : IntKind.i64.wrap x = x := by
  have := IntWalk.i64_in x (by omega)
  exact this
theorem wrap_to {x y : Int} (e : x = y) (h1 : -9223372036854775808 ≤ y) (h2 : y ≤ 9223372036854775807) : IntKind.i64.wrap x = y := by
  subst e; exact wrap_i64 h1 h2

/-! #### loads -/
def plainT (P : Program) (t : TypeId) : Bool := match P.underlying t with | some (.struct _) | some (.array ..) | none => false | some _ => true
theorem run_isAgg_plain {t : TypeId} (ht : plainT P t = true) : (isAgg t).run P w = .ok false w := by
  unfold plainT at ht
  cases hd : P.underlying t with
  | none => rw [hd] at ht; simp at ht
  | some d =>
    rw [hd] at ht
    unfold isAgg
    simp only [Sem.run_bind, run_underlying hd, Result.andThen_ok]
    cases d <;> simp_all
theorem run_loadVar_plain {t : TypeId} {a : Addr} {v : Value} (ht : plainT P t = true) (hc : w.cell? a = some v) : (loadVar t a).run P w = .ok v w := by
  simp [loadVar, run_isAgg_plain ht, load, Sem.run, hc]
theorem q_load {x : Operand} {t : TypeId} {b off : Nat} {cs : Array Value} {ct : TypeId} {fr : Nat × Nat} {v : Value} (ho : o.op = .load t x) (ht : plainT P t = true)
    (hx : ev env x = .pointer (some ⟨b, off, none⟩)) (hb : PH.all w b = some (.cells cs ct fr)) (hc : cs[off]? = some v) : runs P env o w v w := by
  unfold runs
  simp only [execOp, ho]
  exact rv (by rw [hx]; simp [Instr.loadAt, Instr.sureAddr, run_loadVar_plain ht (cell_of (PH.le_refl _) hb hc)])

def aggT (P : Program) (t : TypeId) (n : Nat) : Bool := (match P.underlying t with | some (.struct _) => true | _ => false) && ((P.info? t).map (·.size) == some n)
theorem run_isAgg_agg {t : TypeId} {k : Nat} (ht : aggT P t k = true) : (isAgg t).run P w = .ok true w ∧ (sizeOf t).run P w = .ok k w := by
  unfold aggT at ht
  simp only [Bool.and_eq_true, beq_iff_eq] at ht
  obtain ⟨h1, h2⟩ := ht
  cases hd : P.underlying t with
  | none => rw [hd] at h1; simp at h1
  | some d =>
    rw [hd] at h1
    cases hi : P.info? t with
    | none => rw [hi] at h2; simp at h2
    | some i =>
      rw [hi] at h2
      simp only [Option.map_some, Option.some.injEq] at h2
      unfold isAgg sizeOf typeInfo
      constructor
      · simp only [Sem.run_bind, run_underlying hd, Result.andThen_ok]
        cases d <;> simp_all
      · simp [hi, h2]
theorem q_loadAgg {x : Operand} {t : TypeId} {b off : Nat} {cs : Array Value} {ct : TypeId} {fr : Nat × Nat} {vs : List Value} (ho : o.op = .load t x) (ht : aggT P t vs.length = true)
    (hx : ev env x = .pointer (some ⟨b, off, none⟩)) (hb : PH.all w b = some (.cells cs ct fr)) (hc : ∀ j v, vs[j]? = some v → cs[off + j]? = some v) :
    runs P env o w (.agg vs.toArray) w := by
  unfold runs
  simp only [execOp, ho]
  refine rv ?_
  rw [hx]
  obtain ⟨e1, e2⟩ := run_isAgg_agg (w := w) ht
  have hld := run_loadCells_list (P := P) w ⟨b, off, none⟩ vs (fun j v hv => by rw [add_at]; exact cell_of (PH.le_refl _) hb (hc j v hv))
  simp [Instr.loadAt, Instr.sureAddr, loadVar, e1, e2, hld]

/-! #### new memory -/
theorem WL.new {d : Nat} {ob : Obj} (G : Wld K w h M) (hk : knowsOp n env o = true) (hd : o.dst = some d) (hg : wantedE ops env o = some true) (mk : Nat → Value)
    (hr : ∀ u : World, (execOp (ev env) o).run P u = .ok (.value (mk u.heap.size)) (u.alloc ob))
    (next : ∀ b w', M b = none → h b = none → Wld K w' h (M.set b ob) → WL P ops Q rest n ((d, mk b) :: env) w') : WL P ops Q (o :: rest) n env w :=
  WL.val _ hk hd hg (hr w) (next _ _ G.new.1 G.new.2 (G.alloc ob))

/-! #### slices -/
def sliceT (P : Program) (t e : TypeId) (n : Nat) : Bool := (match P.underlying t with | some (.slice e') => e' == e | _ => false) && ((P.info? e).map (·.size) == some n)
theorem sliceT_spec {t e : TypeId} {k : Nat} (ht : sliceT P t e k = true) : P.underlying t = some (.slice e) ∧ ∃ i, P.info? e = some i ∧ i.size = k := by
  unfold sliceT at ht
  simp only [Bool.and_eq_true, beq_iff_eq] at ht
  obtain ⟨h1, h2⟩ := ht
  constructor
  · cases hd : P.underlying t with
    | none => rw [hd] at h1; simp at h1
    | some d => rw [hd] at h1; cases d <;> simp_all
  · cases hi : P.info? e with
    | none => rw [hi] at h2; simp at h2
    | some i => exact ⟨i, rfl, by simpa [hi] using h2⟩

variable {S : Type} {E : Enc S} {a : Option Addr} {xs : List S}

theorem q_indexAddr {x ix : Operand} {t e : TypeId} {c m : Nat} {k : IntKind} {i : Nat} (hm : xs.length = m) (ho : o.op = .indexAddr t x ix) (ht : sliceT P t e E.sz = true)
    (hx : ev env x = .slice a m c) (hi : ev env ix = .int k (i : Int)) (r : RS hp E a xs) (hlt : i < xs.length) : runs P env o w (eptr a (i * E.sz)) w := by
  subst hm
  unfold runs
  simp only [execOp, ho]
  refine rv ?_
  rw [hx, hi]
  obtain ⟨h1, inf, h2, h3⟩ := sliceT_spec ht
  obtain ⟨b, off, cs, ct, fr, rfl, _⟩ := r.at hlt
  simp only [Instr.indexAt, asIntOf, Sem.run_bind, run_underlying h1, Result.andThen_ok, Sem.run_pure]
  rw [if_pos ⟨by omega, by omega⟩]
  simp [sizeOf, typeInfo, h2, h3, add_at, eptr]

theorem q_load_e {x : Operand} {t : TypeId} {i k : Nat} {v : Value} (ho : o.op = .load t x) (ht : plainT P t = true) (hx : ev env x = eptr a (i * E.sz + k))
    (r : RS (PH.all w) E a xs) (hlt : i < xs.length) (hk : k < E.sz) (hv : (E.enc (xs.getD i E.dflt))[k]? = some v) : runs P env o w v w := by
  obtain ⟨b, off, cs, ct, fr, rfl, hb, hc⟩ := r.at hlt
  exact q_load ho ht hx hb (hc k v hk hv)

theorem q_loadAgg_e {x : Operand} {t : TypeId} {i : Nat} (ho : o.op = .load t x) (ht : aggT P t E.sz = true) (hx : ev env x = eptr a (i * E.sz))
    (r : RS (PH.all w) E a xs) (hlt : i < xs.length) : runs P env o w (.agg (E.enc (xs.getD i E.dflt)).toArray) w := by
  obtain ⟨b, off, cs, ct, fr, rfl, hb, hc⟩ := r.at hlt
  refine q_loadAgg ho (by rw [E.len]; exact ht) hx hb (fun j v hv => ?_)
  have hj : j < E.sz := by
    rcases Nat.lt_or_ge j E.sz with h' | h'
    · exact h'
    · rw [List.getElem?_eq_none (by rw [E.len]; exact h')] at hv; cases hv
  rw [Nat.add_assoc]
  exact hc j v hj hv

def fieldT (P : Program) (s f off : Nat) : Bool := match P.underlying s with
  | some (.struct fs) => match fs[f]? with
    | some fd => fd.offset == off && (match P.info? fd.type with | some i => i.size != 0 | none => false)
    | none => false
  | _ => false
theorem run_fieldAt {s f off : Nat} {b k : Nat} (ht : fieldT P s f off = true) : (Instr.fieldAt s (.pointer (some ⟨b, k, none⟩)) f).run P w = .ok (.pointer (some ⟨b, k + off, none⟩)) w := by
  unfold fieldT at ht
  cases hd : P.underlying s with
  | none => simp [hd] at ht
  | some d =>
    cases d with
    | struct fs =>
      simp only [hd] at ht
      cases hf : fs[f]? with
      | none => simp [hf] at ht
      | some fd =>
        simp only [hf, Bool.and_eq_true, beq_iff_eq] at ht
        obtain ⟨h1, h2⟩ := ht
        cases hi : P.info? fd.type with
        | none => simp [hi] at h2
        | some i =>
          simp only [hi, bne_iff_ne, ne_eq] at h2
          simp [Instr.fieldAt, run_underlying hd, hf, Instr.sureAddr, fieldPlace, sizeOf, typeInfo, hi, h2, add_at, h1]
    | _ => simp [hd] at ht
theorem q_fieldAddr_e {x : Operand} {s f off i : Nat} {k : Nat} (ho : o.op = .fieldAddr s x f) (ht : fieldT P s f off = true) (hx : ev env x = eptr a k) (r : RS hp E a xs) (hlt : i < xs.length) :
    runs P env o w (eptr a (k + off)) w := by
  obtain ⟨b, off', cs, ct, fr, rfl, _⟩ := r.at hlt
  unfold runs
  simp only [execOp, ho]
  refine rv ?_
  rw [hx]
  simp only [eptr]
  rw [run_fieldAt ht, Nat.add_assoc]

/-! #### append to an own slice, as an operation -/
def appT (P : Program) (t e : TypeId) (n bytes : Nat) : Bool := (match P.underlying t with | some (.slice e') => e' == e | _ => false) &&
  (match P.info? e with | some i => i.size == n && i.bytes == bytes && (match i.zero with | some z => z.cells.size == n | none => false) | none => false)
theorem appT_spec {t e : TypeId} {k bytes : Nat} (ht : appT P t e k bytes = true) : P.underlying t = some (.slice e) ∧ ∃ i z, P.info? e = some i ∧ i.zero = some z ∧ i.size = k ∧ i.bytes = bytes ∧ z.cells.size = k := by
  unfold appT at ht
  simp only [Bool.and_eq_true] at ht
  obtain ⟨h1, h2⟩ := ht
  constructor
  · cases hd : P.underlying t with
    | none => rw [hd] at h1; simp at h1
    | some d => rw [hd] at h1; cases d <;> simp_all
  · cases hi : P.info? e with
    | none => rw [hi] at h2; simp at h2
    | some i =>
      rw [hi] at h2
      simp only [Bool.and_eq_true, beq_iff_eq] at h2
      obtain ⟨⟨h3, h4⟩, h5⟩ := h2
      cases hz : i.zero with
      | none => rw [hz] at h5; simp at h5
      | some z => rw [hz] at h5; exact ⟨i, z, rfl, hz, h3, h4, by simpa using h5⟩

theorem q_append {s x : Operand} {t e : TypeId} {bytes cap : Nat} {M0 M1 : PH} {ys : List S} {a2 : Option Addr} {c2 : Nat}
    (ho : o.op = .call { callee := .builtin .append, args := #[s, x], argTypes := #[t, t] }) (ht : appT P t e E.sz bytes = true) (G : Wld K w h M) (hM : PH.le M1 M)
    (own : Own e E M0 M1 a cap xs) (hl : PH.le hp (PH.all w)) (r : RS hp E a2 ys) (hs : ev env s = .slice a xs.length cap) (hx : ev env x = .slice a2 ys.length c2)
    (hmax : xs.length + ys.length ≤ maxLen) (hbytes : (xs.length + ys.length) * bytes ≤ 140737488355328) :
    ∃ a' cap' w' M', runs P env o w (.slice a' (xs ++ ys).length cap') w' ∧ Wld K w' h M' ∧ Own e E M0 M' a' cap' (xs ++ ys) ∧ (a' = none ↔ a = none ∧ ys = []) := by
  obtain ⟨h1, i, z, hi, hz, hsz, hby, hzs⟩ := appT_spec ht
  obtain ⟨a', cap', w', M', hr, g⟩ := Own.append (ty := o.type) h1 hi hz hsz hzs G hM own hl r (c2 := c2) hmax (by rw [hby]; exact hbytes)
  refine ⟨a', cap', w', M', ?_, g⟩
  unfold runs
  simp only [execOp, ho, resolve, Sem.run_bind, Sem.run_pure, Result.andThen_ok, invoke, builtin, List.map_toArray, List.map_cons, List.map_nil, hs, hx, hr]

theorem WL.append {d : Nat} {s x : Operand} {t e : TypeId} {bytes cap : Nat} {M0 M1 : PH} {ys : List S} {a2 : Option Addr} {c2 : Nat}
    (G : Wld K w h M) (hM : PH.le M1 M) (own : Own e E M0 M1 a cap xs) (hl : PH.le hp (PH.all w)) (r : RS hp E a2 ys)
    (ho : o.op = .call { callee := .builtin .append, args := #[s, x], argTypes := #[t, t] }) (ht : appT P t e E.sz bytes = true)
    (hk : knowsOp n env o = true) (hd : o.dst = some d) (hg : wantedE ops env o = some true) (hs : ev env s = .slice a xs.length cap) (hx : ev env x = .slice a2 ys.length c2)
    (hmax : xs.length + ys.length ≤ maxLen) (hbytes : (xs.length + ys.length) * bytes ≤ 140737488355328)
    (next : ∀ a' cap' w' M', Wld K w' h M' → Own e E M0 M' a' cap' (xs ++ ys) → (a' = none ↔ a = none ∧ ys = []) → WL P ops Q rest n ((d, .slice a' (xs ++ ys).length cap') :: env) w') :
    WL P ops Q (o :: rest) n env w := by
  obtain ⟨a', cap', w', M', hr, g1, g2, g3⟩ := q_append ho ht G hM own hl r hs hx hmax hbytes
  exact WL.val _ hk hd hg hr (next a' cap' w' M' g1 g2 g3)

theorem DOp.append {S' : List (Nat × (World → Prop))} {fuel : Nat} {listed : Array Bool} {i d : Nat} {s x : Operand} {t e : TypeId} {bytes cap : Nat} {M0 M1 : PH} {ys : List S} {a2 : Option Addr} {c2 : Nat}
    (G : Wld K w h M) (hM : PH.le M1 M) (own : Own e E M0 M1 a cap xs) (hl : PH.le hp (PH.all w)) (r : RS hp E a2 ys) (hi : ops[i]? = some o)
    (ho : o.op = .call { callee := .builtin .append, args := #[s, x], argTypes := #[t, t] }) (ht : appT P t e E.sz bytes = true)
    (hk : knowsOp n env o = true) (hd : o.dst = some d) (hg : wantedE ops env o = some true) (hs : ev env s = .slice a xs.length cap) (hx : ev env x = .slice a2 ys.length c2)
    (hmax : xs.length + ys.length ≤ maxLen) (hbytes : (xs.length + ys.length) * bytes ≤ 140737488355328)
    (how : ∀ a' cap' w' M', Wld K w' h M' → Own e E M0 M' a' cap' (xs ++ ys) → owed ops i w w' S')
    (next : ∀ a' cap' w' M', Wld K w' h M' → Own e E M0 M' a' cap' (xs ++ ys) → (a' = none ↔ a = none ∧ ys = []) →
      DW P ops Q S' fuel (listed.setIfInBounds i true) n ((d, .slice a' (xs ++ ys).length cap') :: env) w') :
    DOp P ops Q S' fuel listed i n env w := by
  obtain ⟨a', cap', w', M', hr, g1, g2, g3⟩ := q_append ho ht G hM own hl r hs hx hmax hbytes
  exact DOp.val _ hi hk hd hg hr (how a' cap' w' M' g1 g2) (next a' cap' w' M' g1 g2 g3)

theorem DOp.new {S' : List (Nat × (World → Prop))} {fuel : Nat} {listed : Array Bool} {i d : Nat} {ob : Obj} (G : Wld K w h M) (hi : ops[i]? = some o) (hk : knowsOp n env o = true) (hd : o.dst = some d)
    (hg : wantedE ops env o = some true) (mk : Nat → Value) (hr : ∀ u : World, (execOp (ev env) o).run P u = .ok (.value (mk u.heap.size)) (u.alloc ob)) (how : owed ops i w (w.alloc ob) S')
    (next : ∀ b w', M b = none → h b = none → Wld K w' h (M.set b ob) → DW P ops Q S' fuel (listed.setIfInBounds i true) n ((d, mk b) :: env) w') : DOp P ops Q S' fuel listed i n env w :=
  DOp.val _ hi hk hd hg (hr w) how (next _ _ G.new.1 G.new.2 (G.alloc ob))

theorem Ret.elimD {S' : List (Nat × (World → Prop))} {i : Nat} {Φ : PH → Value → Prop} {T : Value → World → Prop} (ho : ∀ w' h', PH.le h h' → Wld K w' h' M → owed ops i w w' S')
    (k : ∀ w' h' v, PH.le h h' → Wld K w' h' M → Φ h' v → T v w') : ∀ e w', Ret K h M Φ e w' → ∃ v, e = .returned v ∧ owed ops i w w' S' ∧ T v w' :=
  fun _ w' ⟨h', M', v, he, hl, G, hM, hΦ⟩ => by subst hM; exact ⟨v, he, ho w' h' hl G, k w' h' v hl G hΦ⟩

theorem RS.blk {hp : PH} {b : Nat} {cs : Array Value} {t : TypeId} {fr : Nat × Nat} (hb : hp b = some (.cells cs t fr)) (hc : cs.toList = flat E xs) : RS hp E (some ⟨b, 0, none⟩) xs :=
  .inr ⟨b, 0, cs, t, fr, rfl, hb, fun j v hv => by rw [← hc] at hv; simpa using hv⟩

theorem Own.lit {t : TypeId} {M0 : PH} {b cap : Nat} {cs : Array Value} (hn : M0 b = none) (hc : cs.toList = flat E xs) (hl : xs.length = cap) (hm : cap ≤ maxLen) :
    Own t E M0 (M0.set b (.cells cs t (0, 0))) (some ⟨b, 0, none⟩) cap xs :=
  .inr ⟨b, cs, rfl, hn, rfl, by omega, hm, by rw [← Array.length_toList, hc, flat_length, hl]; exact Nat.le_refl _, by rw [hc, ← flat_length]; exact List.take_length⟩

/-- One element, laid out in a block of its own: it reads as a slice of one. -/
theorem RS.one {M : PH} {b : Nat} {x : S} {t : TypeId} : RS (M.set b (.cells (E.enc x).toArray t (0, 0))) E (some ⟨b, 0, none⟩) [x] := by
  refine .inr ⟨b, 0, _, t, (0, 0), rfl, PH.set_same _ _ _, fun j v hv => ?_⟩
  simp only [flat, List.flatMap_cons, List.flatMap_nil, List.append_nil] at hv
  simpa using hv
end
end Go.Wk
