/-
  The calculus, twelfth part: what is owned, as laid parts of one form: a block, a map, an own slice; each operation as a fact of its own.
-/
import Derived.Test.YthlcldgcjilfcaaLib11
import Derived.Laws.Strings
import Derived.WideShapes
namespace Go.Wk
open Go Go.MapKept Go.WideShapes

/-- One own block. -/
def Blk (b : Nat) (o : Obj) : PH → PH → Prop := fun M0 M => M0 b = none ∧ M = M0.set b o
section
variable {M0 M : PH} {b : Nat} {o : Obj}
theorem Blk.at (B : Blk b o M0 M) : M b = some o := by rw [B.2]; exact PH.set_same _ _ _
theorem Blk.le (B : Blk b o M0 M) : PH.le M0 M := by rw [B.2]; exact PH.le_set _ B.1
end
theorem Ly.blk (b : Nat) (o : Obj) : Ly (Blk b o) := by
  rintro M0 M ⟨hn, rfl⟩
  exact ⟨[b], ⟨by simpa using hn, fun x hx => PH.set_other _ _ (by simpa using hx)⟩, by simp [PH.set], fun N0 N l hN => ⟨l.free b (by simp), funext fun x => by
    by_cases hx : x = b
    · subst hx; rw [PH.set_same, hN x (by simp), PH.set_same]
    · rw [PH.set_other _ _ hx]; exact l.rest x (by simpa using hx)⟩⟩
/-- One own map. -/
def MapB {κ : Type} (d : TypeDesc) (ke : κ → Value) (b : Nat) (l : List (κ × Value)) : PH → PH → Prop := fun M0 M => ∃ es clk, Blk b (.map es clk) M0 M ∧ MapIs d ke es clk l
theorem MapB.le {κ : Type} {d : TypeDesc} {ke : κ → Value} {b : Nat} {l : List (κ × Value)} {M0 M : PH} (m : MapB d ke b l M0 M) : PH.le M0 M := by
  obtain ⟨es, clk, B, _⟩ := m; exact B.le
theorem Ly.exists {α : Type} {A : α → PH → PH → Prop} (h : ∀ x, Ly (A x)) : Ly (fun M0 M => ∃ x, A x M0 M) := by
  rintro M0 M ⟨x, hx⟩
  obtain ⟨F, l, s, k⟩ := h x _ _ hx
  exact ⟨F, l, s, fun N0 N l' hN => ⟨x, k N0 N l' hN⟩⟩
theorem Ly.and {A : PH → PH → Prop} {p : Prop} (h : Ly A) : Ly (fun M0 M => A M0 M ∧ p) := by
  rintro M0 M ⟨hx, hp⟩
  obtain ⟨F, l, s, k⟩ := h _ _ hx
  exact ⟨F, l, s, fun N0 N l' hN => ⟨k N0 N l' hN, hp⟩⟩
theorem Ly.pand {A : PH → PH → Prop} {p : Prop} (h : Ly A) : Ly (fun M0 M => p ∧ A M0 M) := by
  rintro M0 M ⟨hp, hx⟩
  obtain ⟨F, l, s, k⟩ := h _ _ hx
  exact ⟨F, l, s, fun N0 N l' hN => ⟨hp, k N0 N l' hN⟩⟩
theorem Ly.mapB {κ : Type} (d : TypeDesc) (ke : κ → Value) (b : Nat) (l : List (κ × Value)) : Ly (MapB d ke b l) :=
  Ly.exists fun _ => Ly.exists fun _ => Ly.and (Ly.blk b _)

/-! ### operations -/
def Does (P : Program) (env : Env) (o : Oper) (w : World) (R : Value → World → Prop) : Prop := ∃ v w', (execOp (ev env) o).run P w = .ok (.value v) w' ∧ R v w'
def DoesU (P : Program) (env : Env) (o : Oper) (w : World) (R : World → Prop) : Prop := ∃ w', (execOp (ev env) o).run P w = .ok .skip w' ∧ R w'
section
variable {P : Program} {ops : Array Oper} {Q : Exit → Act → World → Prop} {o : Oper} {rest : List Oper} {n : Nat} {env : Env} {w w' : World} {K : Key} {h M M0 : PH} {R : Value → World → Prop} {RU : World → Prop}
theorem WL.ex {d : Nat} (hk : knowsOp n env o = true) (hd : o.dst = some d) (hg : wantedE ops env o = some true) (H : Does P env o w R)
    (next : ∀ v w', R v w' → WL P ops Q rest n ((d, v) :: env) w') : WL P ops Q (o :: rest) n env w := by
  obtain ⟨v, w', hr, hR⟩ := H; exact WL.val v hk hd hg hr (next v w' hR)
theorem WL.ex0 (hk : knowsOp n env o = true) (hd : o.dst = none) (hg : wantedE ops env o = some true) (H : Does P env o w R)
    (next : ∀ v w', R v w' → WL P ops Q rest n env w') : WL P ops Q (o :: rest) n env w := by
  obtain ⟨v, w', hr, hR⟩ := H; exact WL.val0 v hk hd hg hr (next v w' hR)
theorem WL.exu (hk : knowsOp n env o = true) (hd : o.dst = none) (hg : wantedE ops env o = some true) (H : DoesU P env o w RU)
    (next : ∀ w', RU w' → WL P ops Q rest n env w') : WL P ops Q (o :: rest) n env w := by
  obtain ⟨w', hr, hR⟩ := H; exact WL.unit hk hd hg hr (next w' hR)
variable {S : List (Nat × (World → Prop))} {fuel : Nat} {listed : Array Bool} {i : Nat}
theorem DOp.ex {d : Nat} (hi : ops[i]? = some o) (hk : knowsOp n env o = true) (hd : o.dst = some d) (hg : wantedE ops env o = some true) (H : Does P env o w R)
    (how : ∀ v w', R v w' → owed ops i w w' S) (next : ∀ v w', R v w' → DW P ops Q S fuel (listed.setIfInBounds i true) n ((d, v) :: env) w') : DOp P ops Q S fuel listed i n env w := by
  obtain ⟨v, w', hr, hR⟩ := H; exact DOp.val v hi hk hd hg hr (how v w' hR) (next v w' hR)
theorem DOp.ex0 (hi : ops[i]? = some o) (hk : knowsOp n env o = true) (hd : o.dst = none) (hg : wantedE ops env o = some true) (H : Does P env o w R)
    (how : ∀ v w', R v w' → owed ops i w w' S) (next : ∀ v w', R v w' → DW P ops Q S fuel (listed.setIfInBounds i true) n env w') : DOp P ops Q S fuel listed i n env w := by
  obtain ⟨v, w', hr, hR⟩ := H; exact DOp.val0 v hi hk hd hg hr (how v w' hR) (next v w' hR)
theorem DOp.exu (hi : ops[i]? = some o) (hk : knowsOp n env o = true) (hd : o.dst = none) (hg : wantedE ops env o = some true) (H : DoesU P env o w RU)
    (how : ∀ w', RU w' → owed ops i w w' S) (next : ∀ w', RU w' → DW P ops Q S fuel (listed.setIfInBounds i true) n env w') : DOp P ops Q S fuel listed i n env w := by
  obtain ⟨w', hr, hR⟩ := H; exact DOp.unit hi hk hd hg hr (how w' hR) (next w' hR)

theorem q_newB {ob : Obj} (G : Wld K w h M) (mk : Nat → Value) (hr : ∀ u : World, (execOp (ev env) o).run P u = .ok (.value (mk u.heap.size)) (u.alloc ob)) :
    Does P env o w fun v w' => ∃ b M', v = mk b ∧ Wld K w' h M' ∧ Blk b ob M M' ∧ PH.le (PH.all w) (PH.all w') :=
  ⟨_, _, hr w, _, _, rfl, G.alloc ob, ⟨G.new.1, rfl⟩, le_all_alloc w ob⟩
theorem q_newF {ob : Obj} (G : Wld K w h M) (mk : Nat → Value) (hr : ∀ u : World, (execOp (ev env) o).run P u = .ok (.value (mk u.heap.size)) (u.alloc ob)) :
    Does P env o w fun v w' => ∃ b h', v = mk b ∧ PH.le h h' ∧ Wld K w' h' M ∧ h' b = some ob ∧ PH.le (PH.all w) (PH.all w') :=
  ⟨_, _, hr w, _, _, rfl, PH.le_set _ G.new.2, G.allocI ob, PH.set_same _ _ _, le_all_alloc w ob⟩
theorem Blk.freeze {b : Nat} {ob : Obj} (B : Blk b ob M0 M) (G : Wld K w h M) : ∃ h', PH.le h h' ∧ Wld K w h' M0 ∧ h' b = some ob := by
  obtain ⟨hn, rfl⟩ := B; exact G.frz hn
theorem q_storeB {x y : Operand} {t : TypeId} {b off : Nat} {cs : Array Value} (cs' : Array Value) {et : TypeId} {v : Value} {vs : List Value} (G : Wld K w h M) (B : Blk b (.cells cs et (0, 0)) M0 M)
    (ho : o.op = .store t x y) (ht : sizeT P t vs.length = true) (hx : ev env x = .pointer (some ⟨b, off, none⟩)) (hy : ev env y = v) (hv : v.cells.toList = vs) (h1 : ∀ u ∈ vs, u.oneCell' = true)
    (hoff : off + vs.length ≤ cs.size) (hc : (cs.toList.take off ++ vs ++ cs.toList.drop (off + vs.length)).toArray = cs') :
    DoesU P env o w fun w' => ∃ M', Wld K w' h M' ∧ Blk b (.cells cs' et (0, 0)) M0 M' := by
  refine ⟨_, q_store ho ht hx hy hv h1 (G.own _ _ B.at) hoff, _, G.setRow _ B.at, B.1, ?_⟩
  rw [B.2, PH.set_set, hc]
theorem q_storeO {S : Type} {E : Enc S} {x y : Operand} {t : TypeId} {v : Value} {e : TypeId} {a : Option Addr} {cap : Nat} {xs : List S} {i : Nat} (s : S) (G : Wld K w h M) (ow : Own e E M0 M a cap xs) (hi : i < xs.length)
    (ho : o.op = .store t x y) (ht : sizeT P t E.sz = true) (hx : ev env x = eptr a (i * E.sz)) (hy : ev env y = v) (hv : v.cells.toList = E.enc s) :
    DoesU P env o w fun w' => ∃ M', Wld K w' h M' ∧ Own e E M0 M' a cap (xs.set i s) := by
  obtain ⟨g, cs, rfl, hb, hsz, ow'⟩ := ow.set hi s
  have G' := G.setRow (cs.toList.take (i * E.sz) ++ E.enc s ++ cs.toList.drop (i * E.sz + (E.enc s).length)).toArray hb
  have hr := q_store (P := P) (o := o) (env := env) (w := w) (vs := E.enc s) (b := g) (off := i * E.sz) ho (by rw [E.len]; exact ht) (hx.trans (by simp [eptr])) hy hv (E.one s) (G.own _ _ hb) (by rw [E.len]; exact hsz)
  rw [E.len] at G' hr
  exact ⟨_, hr, _, G', ow'⟩

section
variable {κ : Type} [DecidableEq κ] {d : TypeDesc} {ke : κ → Value} {l : List (κ × Value)} {es : Array MapEntry} {clk : Nat}
omit [DecidableEq κ] in
theorem q_makeMap (G : Wld K w h M) (hk : ∀ k, IsKey d (ke k)) (hi : ∀ a b, ke a = ke b → a = b) (hr : ∀ u : World, (execOp (ev env) o).run P u = .ok (.value (.map (some u.heap.size))) (u.alloc (.map #[] 0))) :
    Does P env o w fun v w' => ∃ b M' es clk, v = .map (some b) ∧ Wld K w' h M' ∧ Blk b (.map es clk) M M' ∧ MapIs d ke es clk ([] : List (κ × Value)) ∧ PH.le (PH.all w) (PH.all w') :=
  ⟨_, _, hr w, _, _, _, _, rfl, G.alloc _, ⟨G.new.1, rfl⟩, MapIs.empty hk hi 0, le_all_alloc w _⟩
theorem q_mapUp {x ix y : Operand} {t : TypeId} {z : Value} {b : Nat} {k : κ} {v : Value} (G : Wld K w h M) (B : Blk b (.map es clk) M0 M) (hm : MapIs d ke es clk l)
    (ho : o.op = .mapUpdate t x ix y ∨ o.op = .insert t x ix y) (ht : mapT P t d z) (hx : ev env x = .map (some b)) (hi : ev env ix = ke k) (hy : ev env y = v) :
    DoesU P env o w fun w' => ∃ M' es' clk', Wld K w' h M' ∧ Blk b (.map es' clk') M0 M' ∧ MapIs d ke es' clk' (mput l k v) := by
  obtain ⟨es', clk', hr, hm'⟩ := run_mapUpdate (P := P) ht (G.own _ _ B.at) hm k v
  refine ⟨_, ?_, _, es', clk', G.setObj _ B.at, ⟨B.1, by rw [B.2, PH.set_set]⟩, hm'⟩
  rcases ho with ho | ho <;>
  · simp only [execOp, ho]
    exact ru (by rw [hx, hi, hy]; exact hr)
theorem q_mapDel {x ix : Operand} {t kt : TypeId} {z : Value} {b : Nat} {k : κ} (G : Wld K w h M) (B : Blk b (.map es clk) M0 M) (hm : MapIs d ke es clk l)
    (ho : o.op = .call { callee := .builtin .delete, args := #[x, ix], argTypes := #[t, kt] }) (ht : mapT P t d z) (hx : ev env x = .map (some b)) (hi : ev env ix = ke k) :
    Does P env o w fun v w' => ∃ M' es', v = .tuple #[] ∧ Wld K w' h M' ∧ Blk b (.map es' clk) M0 M' ∧ MapIs d ke es' clk (l.filter fun p => p.1 ≠ k) := by
  obtain ⟨es', hr, hm'⟩ := q_delete (P := P) (o := o) (env := env) (w := w) ho ht hx hi (G.own _ _ B.at) hm
  exact ⟨_, _, hr, _, es', rfl, G.setObj _ B.at, ⟨B.1, by rw [B.2, PH.set_set]⟩, hm'⟩
end
theorem q_app {S : Type} {E : Enc S} {s x : Operand} {t e : TypeId} {bytes cap : Nat} {a : Option Addr} {xs ys : List S} {a2 : Option Addr} {c2 : Nat}
    (G : Wld K w h M) (own : Own e E M0 M a cap xs) (r : RS (PH.all w) E a2 ys)
    (ho : o.op = .call { callee := .builtin .append, args := #[s, x], argTypes := #[t, t] }) (ht : appT P t e E.sz bytes = true) (hs : ev env s = .slice a xs.length cap) (hx : ev env x = .slice a2 ys.length c2)
    (hmax : xs.length + ys.length ≤ maxLen) (hbytes : (xs.length + ys.length) * bytes ≤ 140737488355328) :
    Does P env o w fun v w' => ∃ a' cap' M', v = .slice a' (xs ++ ys).length cap' ∧ Wld K w' h M' ∧ Own e E M0 M' a' cap' (xs ++ ys) ∧ (a' = none ↔ a = none ∧ ys = []) := by
  obtain ⟨a', cap', w', M', hr, g1, g2, g3⟩ := q_append ho ht G (PH.le_refl _) own (PH.le_refl _) r hs hx hmax hbytes
  exact ⟨_, _, hr, a', cap', M', rfl, g1, g2, g3⟩
theorem q_appStr {s x : Operand} {t u e : TypeId} {cap : Nat} {a : Option Addr} {xs : List UInt8} {str : ByteArray}
    (G : Wld K w h M) (own : OwnB e M0 M a cap xs)
    (ho : o.op = .call { callee := .builtin .append, args := #[s, x], argTypes := #[t, u] }) (ht : appT P t e 1 1 = true) (hu : P.underlying u = some .string)
    (hs : ev env s = .slice a xs.length cap) (hx : ev env x = .string str) (hmax : xs.length + str.size ≤ 140737488351232) :
    Does P env o w fun v w' => ∃ a' cap' M', v = .slice a' (xs ++ str.data.toList).length cap' ∧ Wld K w' h M' ∧ OwnB e M0 M' a' cap' (xs ++ str.data.toList) := by
  obtain ⟨h1, i, z, hi, hz, hsz, hby, hzs⟩ := appT_spec ht
  obtain ⟨a', cap', w', M', hr, g1, g2⟩ := OwnB.appendStr (ty := o.type) h1 hu hi hz hsz hby hzs str G (PH.le_refl _) own hmax
  refine ⟨_, w', ?_, a', cap', M', rfl, g1, g2⟩
  simp only [execOp, ho, resolve, Sem.run_bind, Sem.run_pure, Result.andThen_ok, invoke, builtin, List.map_toArray, List.map_cons, List.map_nil, hs, hx, hr]
theorem q_extern {f : FuncId} {fn : Func} {e : Array Value → Sem Value} {xs : Array Operand} {ts : Array TypeId} {args : Array Value} {v : Value}
    (hf : P.funcs[f]? = some fn) (hname : (fn.name == "runtime.NumGoroutine") = false) (hb : fn.body.isNone = true) (hn : Extern.findNext fn = none) (he : Extern.find fn = some e)
    (ho : o.op = .call { callee := .value (.func f), args := xs, argTypes := ts }) (ha : xs.map (ev env) = args) (hr : (e args).run P w = .ok v w) : runs P env o w v w := by
  unfold runs
  simp [execOp, ho, resolve, ev, invoke, ha, Deferred.ofValue, run_callFunc_extern hf hname hb hn he, hr]
end

theorem agg_at {cs : Array Value} {vs : List Value} {off : Nat} (h : (cs.toList.drop off).take vs.length = vs) : ∀ (j : Nat) (v : Value), vs[j]? = some v → cs[off + j]? = some v := by
  intro j v hv
  rw [← h, List.getElem?_take] at hv
  split at hv
  · rw [List.getElem?_drop] at hv; simpa using hv
  · cases hv
/-! ### results that lie in memory -/
section
variable {P : Program} {Q : Exit → Act → World → Prop} {n : Nat} {env : Env} {w : World} {R : Ending → World → Prop} {fn : Func}
theorem load_agg {t : TypeId} {b off : Nat} {cs : Array Value} {ct : TypeId} {fr : Nat × Nat} {vs : List Value} (ht : aggT P t vs.length = true)
    (hb : PH.all w b = some (.cells cs ct fr)) (hc : ∀ j v, vs[j]? = some v → cs[off + j]? = some v) : (loadVar t ⟨b, off, none⟩).run P w = .ok (.agg vs.toArray) w := by
  obtain ⟨e1, e2⟩ := run_isAgg_agg (w := w) ht
  have hld := run_loadCells_list (P := P) w ⟨b, off, none⟩ vs (fun j v hv => by rw [add_at]; exact cell_of (PH.le_refl _) hb (hc j v hv))
  simp [loadVar, e1, e2, hld]
theorem EX.retCell {t : Nat} {ty : TypeId} {b : Nat} {cs : Array Value} {ct : TypeId} {fr : Nat × Nat} {vs : List Value} (hr : fn.results = #[.cell t ty]) (ht : aggT P ty vs.length = true)
    (hv : env.lookup t = some (.pointer (some ⟨b, 0, none⟩))) (hb : PH.all w b = some (.cells cs ct fr)) (hc : ∀ j v, vs[j]? = some v → cs[0 + j]? = some v)
    (h : R (.returned (.agg vs.toArray)) w) : EX .ret (bodyPost P fn R) n env w := fun a ha =>
  bodyPost_ret (v := .agg vs.toArray) (by
    have e1 := ha.getD hv
    simp only [Array.getD_eq_getD_getElem?] at e1
    simp [results, hr, e1, asAddr, load_agg ht hb hc]) ha.defers h
theorem EX.retCell2 {t u : Nat} {x : Value} {ty : TypeId} {b : Nat} {cs : Array Value} {ct : TypeId} {fr : Nat × Nat} {vs : List Value} (hr : fn.results = #[.cell t ty, .tmp u]) (ht : aggT P ty vs.length = true)
    (hv : env.lookup t = some (.pointer (some ⟨b, 0, none⟩))) (hb : PH.all w b = some (.cells cs ct fr)) (hc : ∀ j v, vs[j]? = some v → cs[0 + j]? = some v) (hx : env.lookup u = some x)
    (h : R (.returned (.tuple #[.agg vs.toArray, x])) w) : EX .ret (bodyPost P fn R) n env w := fun a ha =>
  bodyPost_ret (v := .tuple #[.agg vs.toArray, x]) (by
    have e1 := ha.getD hv
    have e2 := ha.getD hx
    simp only [Array.getD_eq_getD_getElem?] at e1 e2
    simp [results, hr, e1, e2, asAddr, load_agg ht hb hc]) ha.defers h
end
theorem q_shr {P : Program} {env : Env} {o : Oper} {w : World} {x y : Operand} {t t2 : TypeId} {k yk : IntKind} {n m p : Nat} (ho : o.op = .binOp .shr t x y t2) (hx : ev env x = .int k (n : Int)) (hy : ev env y = .int yk (m : Int)) (hm : m ≤ k.bits) (hp : 2 ^ m = p) :
    runs P env o w (.int k ((n / p : Nat) : Int)) w := by
  unfold runs
  simp only [execOp, ho]
  refine rv (w' := w) ?_
  rw [hx, hy]
  have e : Op.shift .shr k (n : Int) yk (m : Int) = pure (.int k ((n / p : Nat) : Int)) := by
    have h0 : ¬ ((m : Int) < 0) := by omega
    have h1 : min (m : Int).toNat k.bits = m := by omega
    unfold Op.shift
    rw [if_neg h0]
    simp only [h1]
    rw [Int.fdiv_eq_ediv_of_nonneg _ (Int.pow_nonneg (by decide)), ← hp]
    congr 2
  have hr : (binOp .shr t (.int k (n : Int)) (.int yk (m : Int))).run P w = .ok (.int k ((n / p : Nat) : Int)) w := by
    simp only [binOp, e]; rfl
  simpa [eqGuard] using hr
theorem Own.lit2 {S : Type} {E : Enc S} {xs : List S} {t : TypeId} {M0 M : PH} {b cap : Nat} {cs : Array Value} (B : Blk b (.cells cs t (0, 0)) M0 M) (hc : cs.toList = flat E xs) (hl : xs.length = cap) (hm : cap ≤ maxLen) :
    Own t E M0 M (some ⟨b, 0, none⟩) cap xs := by
  obtain ⟨hn, rfl⟩ := B; exact Own.lit hn hc hl hm
theorem Own.cast {S : Type} {E : Enc S} {xs ys : List S} {t : TypeId} {M0 M : PH} {a : Option Addr} {cap : Nat} (o : Own t E M0 M a cap xs) (e : xs = ys) : Own t E M0 M a cap ys := e ▸ o
theorem RS.cast {S : Type} {E : Enc S} {xs ys : List S} {h : PH} {a : Option Addr} (o : RS h E a xs) (e : xs = ys) : RS h E a ys := e ▸ o
theorem all_cast {S : Type} {p : S → Prop} {xs ys : List S} (H : ∀ x ∈ xs, p x) (e : xs = ys) : ∀ x ∈ ys, p x := e ▸ H
/-- Are two texts the same? As the model asks. -/
def sameS (s t : ByteArray) : Bool := s.toList == t.toList
theorem sameS_iff {s t : ByteArray} : sameS s t = true ↔ s = t := by
  unfold sameS
  rw [beq_iff_eq, ByteArray.toList_eq, ByteArray.toList_eq]
  exact ⟨fun h => bytes_inj h, fun h => by rw [h]⟩
theorem sameS_ne {s t : ByteArray} (h : sameS s t = false) : s ≠ t := fun e => by rw [sameS_iff.2 e] at h; cases h

/-! ### facts on all elements -/
section
variable {S : Type} {p : PH → S → Prop} {h h' : PH} {xs ys : List S}
theorem all_up (pm : ∀ {h h' : PH}, PH.le h h' → ∀ s, p h s → p h' s) (hl : PH.le h h') (H : ∀ x ∈ xs, p h x) : ∀ x ∈ xs, p h' x := fun x hx => pm hl x (H x hx)
theorem all_nil : ∀ x ∈ ([] : List S), p h x := by simp
theorem all_one {x : S} (H : p h x) : ∀ y ∈ [x], p h y := by simpa using H
theorem all_app (H : ∀ x ∈ xs, p h x) (H' : ∀ x ∈ ys, p h x) : ∀ x ∈ xs ++ ys, p h x := fun x hx => (List.mem_append.1 hx).elim (H x) (H' x)
theorem all_set {i : Nat} {s : S} (H : ∀ x ∈ xs, p h x) (H' : p h s) : ∀ x ∈ xs.set i s, p h x := fun x hx => (List.mem_or_eq_of_mem_set hx).elim (H x) fun e => e ▸ H'
theorem all_filter {q : S → Bool} (H : ∀ x ∈ xs, p h x) : ∀ x ∈ xs.filter q, p h x := fun x hx => H x (List.mem_filter.1 hx).1
theorem all_take {i : Nat} (H : ∀ x ∈ xs, p h x) : ∀ x ∈ xs.take i, p h x := fun x hx => H x (List.mem_of_mem_take hx)
theorem all_drop {i : Nat} (H : ∀ x ∈ xs, p h x) : ∀ x ∈ xs.drop i, p h x := fun x hx => H x (List.mem_of_mem_drop hx)
end
end Go.Wk
