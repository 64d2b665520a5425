/-
  The play's plain words; values that are owned and written.
-/
import Derived.Test.YtaepnhapggdceaaDoorR1
import Derived.Test.YtaepnhapggdceaaDoorFu
namespace Go.Proofs
open Go Go.Wk

structure ActD where
  op : Int
  id : Int
  t : ByteArray
  a : Option Addr
  vals : List Val
  c : Nat
def actE : Enc ActD := ⟨4, fun f => [.int .i64 f.op, .int .i64 f.id, .string f.t, .slice f.a f.vals.length f.c], ⟨0, 0, ByteArray.mk #[], none, [], 0⟩, by decide, fun _ => rfl, fun _ v hv => by
  simp only [List.mem_cons, List.not_mem_nil, or_false] at hv; rcases hv with rfl | rfl | rfl | rfl <;> rfl⟩
def RangeV (v : Val) : Prop := (-9223372036854775808 ≤ v.k ∧ v.k ≤ 9223372036854775807) ∧ (-9223372036854775808 ≤ v.i ∧ v.i ≤ 9223372036854775807) ∧ v.s.size ≤ 9223372036854775807
def actG (h : PH) (x : ActD) : Prop := RS h valE x.a x.vals ∧ (∀ v ∈ x.vals, RangeV v) ∧ (-9223372036854775808 ≤ x.id ∧ x.id ≤ 9223372036854775807)
theorem actG.mono {h h' : PH} (hl : PH.le h h') (x : ActD) (g : actG h x) : actG h' x := ⟨g.1.mono hl, g.2⟩

/-- Is a fact the one that is meant? -/
def qF (op id : Int) (t : ByteArray) (xs : List Val) (f : FactD) : Bool := ((op == 1) && sameS f.t t && rowsV f.vals xs) || ((op == 2) && (f.id == id))
def atK (fs : List FactD) (q : FactD → Bool) : Nat → Int
  | 0 => -1
  | k + 1 => if q (fs.getD k factE.dflt) = true then (k : Int) else atK fs q k
theorem atK_yes {fs : List FactD} {q : FactD → Bool} {k : Nat} (h : q (fs.getD k factE.dflt) = true) : (k : Int) = atK fs q (k + 1) := by simp only [atK, h, if_true]
theorem atK_no {fs : List FactD} {q : FactD → Bool} {k : Nat} (h : q (fs.getD k factE.dflt) = false) : atK fs q k = atK fs q (k + 1) := by
  have : ¬ q (fs.getD k factE.dflt) = true := by rw [h]; simp
  rw [atK, if_neg this]
theorem atK_cases (fs : List FactD) (q : FactD → Bool) : ∀ n : Nat, (atK fs q n = -1 ∧ ∀ j < n, q (fs.getD j factE.dflt) = false) ∨ ∃ j : Nat, j < n ∧ atK fs q n = (j : Int) ∧ q (fs.getD j factE.dflt) = true
  | 0 => .inl ⟨rfl, fun j hj => absurd hj (Nat.not_lt_zero _)⟩
  | n + 1 => by
    by_cases h : q (fs.getD n factE.dflt) = true
    · exact .inr ⟨n, by omega, (atK_yes h).symm, h⟩
    · have h' : q (fs.getD n factE.dflt) = false := by simpa using h
      rw [← atK_no h']
      rcases atK_cases fs q n with ⟨h1, h2⟩ | ⟨j, h1, h2, h3⟩
      · refine .inl ⟨h1, fun j hj => ?_⟩
        rcases Nat.lt_or_ge j n with q1 | q1
        · exact h2 j q1
        · obtain rfl : j = n := by omega
          exact h'
      · exact .inr ⟨j, by omega, h2, h3⟩
theorem look_no {fs : List FactD} {id : Int} {t : ByteArray} {xs : List Val} (h : ∀ j < fs.length, qF 1 id t xs (fs.getD j factE.dflt) = false) : lookA (fs.map dat) t xs = none := by
  refine lookA_none fun d hd hq => ?_
  obtain ⟨f, hf, rfl⟩ := List.mem_map.1 hd
  obtain ⟨j, hj, rfl⟩ := List.getElem_of_mem hf
  have := h j hj
  have e : fs.getD j factE.dflt = fs[j] := by simp [List.getD, hj]
  rw [e] at this
  simp only [dat] at hq
  simp [qF, hq.1, hq.2, sameS_iff.2 rfl, rowsV] at this
theorem look_yes {fs : List FactD} {id : Int} {t : ByteArray} {xs : List Val} (hk : Keys (fs.map dat)) {j : Nat} (hj : j < fs.length) (h : qF 1 id t xs (fs.getD j factE.dflt) = true) : lookA (fs.map dat) t xs = some (fs.getD j factE.dflt).id := by
  refine lookA_mem hk (List.mem_map.2 ⟨fs.getD j factE.dflt, getD_mem hj, ?_⟩)
  generalize fs.getD j factE.dflt = f at h
  simp [qF, sameS_iff, rowsV] at h
  simp [dat, h.1, h.2]
theorem ret_no {fs : List FactD} {id : Int} {t : ByteArray} {xs : List Val} (h : ∀ j < fs.length, qF 2 id t xs (fs.getD j factE.dflt) = false) :
    ((fs.map dat).any fun (d : Dat) => d.1 == id) = false ∧ ((fs.map dat).filter fun (d : Dat) => d.1 ≠ id) = fs.map dat := by
  have key : ∀ d ∈ fs.map dat, d.1 ≠ id := fun d hd => by
    obtain ⟨f, hf, rfl⟩ := List.mem_map.1 hd
    obtain ⟨j, hj, rfl⟩ := List.getElem_of_mem hf
    have := h j hj
    have e : fs.getD j factE.dflt = fs[j] := by simp [List.getD, hj]
    rw [e] at this
    simp [qF] at this
    simpa [dat] using this
  exact ⟨List.any_eq_false.2 fun d hd => by simpa using key d hd, List.filter_eq_self.2 fun d hd => by simpa using key d hd⟩
theorem filter_ids {ds : List Dat} (hu : ds.Pairwise fun a b => a.1 < b.1) {j : Nat} (hj : j < ds.length) : (ds.filter fun (d : Dat) => d.1 ≠ (ds[j]).1) = ds.take j ++ ds.drop (j + 1) := by
  induction ds generalizing j with
  | nil => simp at hj
  | cons f r ih =>
    obtain ⟨h1, h2⟩ := List.pairwise_cons.1 hu
    cases j with
    | zero =>
      simp only [List.getElem_cons_zero, List.take_zero, List.nil_append, Nat.zero_add, List.drop_succ_cons, List.drop_zero]
      rw [List.filter_cons_of_neg (by simp)]
      refine List.filter_eq_self.2 fun g hg => ?_
      have := h1 g hg
      simp; omega
    | succ i =>
      have hi : i < r.length := by simpa using hj
      have h4 := h1 _ (List.getElem_mem hi)
      simp only [List.getElem_cons_succ, List.take_succ_cons, List.drop_succ_cons, List.cons_append]
      rw [List.filter_cons_of_pos (by simp only [ne_eq, decide_not, Bool.not_eq_true', decide_eq_false_iff_not]; omega), ih h2 hi]
theorem ret_yes {fs : List FactD} {next id : Int} {t : ByteArray} {xs : List Val} (ok : DatOk (fs.map dat) next) {j : Nat} (hj : j < fs.length) (h : qF 2 id t xs (fs.getD j factE.dflt) = true) :
    ((fs.map dat).any fun (d : Dat) => d.1 == id) = true ∧ ((fs.map dat).filter fun (d : Dat) => d.1 ≠ id) = (([] ++ fs.take j) ++ fs.drop (j + 1)).map dat := by
  simp [qF] at h
  have e : fs.getD j factE.dflt = fs[j] := by simp [List.getD, hj]
  have e2 : fs[j].id = id := by simpa [List.getD, hj] using h
  refine ⟨List.any_eq_true.2 ⟨dat fs[j], List.mem_map.2 ⟨_, List.getElem_mem hj, rfl⟩, by simpa [dat] using e2⟩, ?_⟩
  have h3 := filter_ids ok.up (j := j) (by simpa using hj)
  rw [List.getElem_map] at h3
  simp only [dat, e2] at h3
  rw [List.nil_append, List.map_append, List.map_take, List.map_drop]
  exact h3

/-! ### own values that are written -/
theorem InnL.swap2 {x y : FactD} {l : List FactD} {M0 M : PH} (h : InnL (y :: x :: l) M0 M) : InnL (x :: y :: l) M0 M := by
  obtain ⟨N1, h1, N2, h2, h3⟩ := h
  obtain ⟨N, s1, s2⟩ := Ly.swap (A := fun M0 M => ∃ k, Own 29 valE M0 M y.a k y.vals) (B := fun M0 M => ∃ k, Own 29 valE M0 M x.a k x.vals) (Ly.exists fun _ => Ly.own _ _ _ _) (Ly.exists fun _ => Ly.own _ _ _ _) h1 h2
  exact ⟨N, s1, N2, s2, h3⟩
theorem InnL.perm {l l' : List FactD} (p : l.Perm l') : ∀ {M0 M : PH}, InnL l M0 M → InnL l' M0 M := by
  induction p with
  | nil => exact fun h => h
  | cons x _ ih => rintro M0 M ⟨N, h1, h2⟩; exact ⟨N, h1, ih h2⟩
  | swap x y l => exact InnL.swap2
  | trans _ _ ih1 ih2 => exact fun h => ih2 (ih1 h)
theorem InnL.pop : ∀ {l : List FactD} {x : FactD} {M0 M : PH}, InnL (l ++ [x]) M0 M → ∃ N k, InnL l M0 N ∧ Own 29 valE N M x.a k x.vals
  | [], x, M0, M, ⟨N, ⟨k, o⟩, h⟩ => by
    have h' : M = N := h
    subst h'
    exact ⟨M0, k, rfl, o⟩
  | y :: r, x, M0, M, ⟨N, h1, h2⟩ => by
    obtain ⟨N2, k, h3, h4⟩ := InnL.pop h2
    exact ⟨N2, k, ⟨N, h1, h3⟩, h4⟩
/-- Own values, of which only places and lengths are told. -/
def InnS (al : List (Option Addr × Nat)) (M0 M : PH) : Prop := ∃ gs, InnL gs M0 M ∧ gs.map (fun g => (g.a, g.vals.length)) = al
theorem Ly.innS (al : List (Option Addr × Nat)) : Ly (InnS al) := Ly.exists fun _ => Ly.and (Ly.innL _)
theorem pick_perm (gs : List FactD) {k : Nat} (hk : k < gs.length) : gs.Perm ((gs.take k ++ gs.drop (k + 1)) ++ [gs[k]]) := by
  have e : gs = gs.take k ++ gs[k] :: gs.drop (k + 1) := by rw [← List.drop_eq_getElem_cons hk, List.take_append_drop]
  have h1 : (gs.take k ++ gs[k] :: gs.drop (k + 1)).Perm (gs[k] :: (gs.take k ++ gs.drop (k + 1))) := List.perm_middle
  have h2 : (gs[k] :: (gs.take k ++ gs.drop (k + 1))).Perm ((gs.take k ++ gs.drop (k + 1)) ++ [gs[k]]) := (List.perm_append_singleton _ _).symm
  have h3 := h1.trans h2
  rw [← e] at h3
  exact h3
theorem InnS.pick {al : List (Option Addr × Nat)} {M0 M : PH} (I : InnS al M0 M) {k : Nat} {aa : Option Addr} {n : Nat} (hk : al[k]? = some (aa, n)) :
    ∃ (gs : List FactD) (N : PH) (c : Nat) (g : FactD), ∃ hl : k < gs.length, gs[k] = g ∧ InnL (gs.take k ++ gs.drop (k + 1)) M0 N ∧ Own 29 valE N M g.a c g.vals ∧ gs.map (fun g => (g.a, g.vals.length)) = al ∧ g.a = aa ∧ g.vals.length = n := by
  obtain ⟨gs, h, rfl⟩ := I
  rw [List.getElem?_map, Option.map_eq_some_iff] at hk
  obtain ⟨g, hg, e⟩ := hk
  obtain ⟨hl, rfl⟩ := List.getElem?_eq_some_iff.1 hg
  obtain ⟨N, c, h1, h2⟩ := InnL.pop (InnL.perm (pick_perm gs hl) h)
  simp only [Prod.mk.injEq] at e
  exact ⟨gs, N, c, _, hl, rfl, h1, h2, rfl, e.1, e.2⟩
theorem InnS.reads {al : List (Option Addr × Nat)} {M0 M : PH} (I : InnS al M0 M) {k : Nat} {aa : Option Addr} {n : Nat} (hk : al[k]? = some (aa, n)) : ∃ vs : List Val, vs.length = n ∧ RS M valE aa vs := by
  obtain ⟨gs, N, c, g, hl, hg, h1, h2, h3, rfl, rfl⟩ := I.pick hk
  exact ⟨g.vals, rfl, h2.reads⟩
theorem q_storeInn {P : Program} {env : Env} {o : Oper} {w : World} {K : Key} {h M M0 : PH} {x y : Operand} {t : TypeId} {v : Value} {al : List (Option Addr × Nat)} {k j n : Nat} {aa : Option Addr} (s : Val) (G : Wld K w h M) (I : InnS al M0 M) (hk : al[k]? = some (aa, n)) (hj : j < n)
    (ho : o.op = .store t x y) (ht : sizeT P t valE.sz = true) (hx : ev env x = eptr aa (j * valE.sz)) (hy : ev env y = v) (hv : v.cells.toList = valE.enc s) :
    DoesU P env o w fun w' => ∃ M', Wld K w' h M' ∧ InnS al M0 M' := by
  obtain ⟨gs, N, c, g, hl, hg, h1, h2, h3, rfl, rfl⟩ := I.pick hk
  obtain ⟨w', hr, M', G', o'⟩ := q_storeO (i := j) s G h2 hj ho ht hx hy hv
  refine ⟨w', hr, M', G', gs.set k { g with vals := g.vals.set j s }, ?_, ?_⟩
  · have h4 : InnL ((gs.take k ++ gs.drop (k + 1)) ++ [{ g with vals := g.vals.set j s }]) M0 M' := InnL.push h1 o'
    have hl2 : k < (gs.set k { g with vals := g.vals.set j s }).length := by simpa using hl
    have p := pick_perm (gs.set k { g with vals := g.vals.set j s }) hl2
    have e1 : (gs.set k { g with vals := g.vals.set j s }).take k = gs.take k := by rw [List.take_set_of_le (Nat.le_refl _)]
    have e2 : (gs.set k { g with vals := g.vals.set j s }).drop (k + 1) = gs.drop (k + 1) := by rw [List.drop_set_of_lt (by omega)]
    have e3 : (gs.set k { g with vals := g.vals.set j s })[k] = { g with vals := g.vals.set j s } := by simp
    rw [e1, e2, e3] at p
    exact InnL.perm p.symm h4
  · rw [← h3, List.map_set]
    apply List.ext_getElem?
    intro i
    rw [List.getElem?_set]
    split
    · rename_i e; subst e
      subst hg
      simp [hl]
    · rfl
end Go.Proofs
namespace Go.Proofs
open Go Go.Wk
theorem getD_last (ys : List FactD) (x d : FactD) : (ys ++ [x]).getD ((((ys ++ [x]).length : Nat) : Int) - 1).toNat d = x := by
  have : ((((ys ++ [x]).length : Nat) : Int) - 1).toNat = ys.length := by simp
  rw [this]; simp [List.getD]
theorem getD_len (fs : List FactD) (x d : FactD) : (([] ++ fs) ++ [x]).getD fs.length d = x := by simp [List.getD]
theorem getD_at {S : Type} {xs : List S} {d : S} {j : Nat} (hj : j < xs.length) : xs.getD j d = xs[j] := by simp [List.getD, hj]
theorem al_get {fs : List FactD} {k : Nat} (hk : k < fs.length) : (fs.map fun (g : FactD) => (g.a, g.vals.length))[k]? = some ((fs.getD k factO.dflt).a, (fs.getD k factO.dflt).vals.length) := by
  simp [List.getD, hk]
theorem push_dat {fs : List FactD} {f : FactD} : fs.map dat ++ [(f.id, f.t, f.vals)] = (([] ++ fs) ++ [f]).map dat := by simp [dat]
/-- Is there a fact that is told so? -/
def inF (f : FactD) (id : Int) (fs : List FactD) : Bool := fs.any fun q => (q.id == id) && sameF [f] [q]
theorem inF_succ {f : FactD} {id : Int} {fs : List FactD} {k : Nat} (hk : k < fs.length) : inF f id (fs.take (k + 1)) = (inF f id (fs.take k) || (((fs.getD k factE.dflt).id == id) && sameF [f] [fs.getD k factE.dflt])) := by
  have e : fs.getD k factE.dflt = fs[k] := by simp [List.getD, hk]
  unfold inF
  rw [List.take_succ_eq_append_getElem hk, List.any_append, e]
  simp
theorem inF_yes {f : FactD} {id : Int} {fs : List FactD} (h : dat f ∈ fs.map dat) (hid : f.id = id) : inF f id fs = true := by
  obtain ⟨q, hq, e⟩ := List.mem_map.1 h
  refine List.any_eq_true.2 ⟨q, hq, ?_⟩
  have e1 : q.id = f.id := congrArg (·.1) e
  simp [sameF, e, e1, hid]
theorem inF_no {f : FactD} {id : Int} {fs : List FactD} (h : ∀ d ∈ fs.map dat, d.1 ≠ id) : inF f id fs = false := by
  refine List.any_eq_false.2 fun q hq => ?_
  have := h (dat q) (List.mem_map.2 ⟨q, hq, rfl⟩)
  have e : (q.id == id) = false := by simpa [dat] using this
  simp [e]
end Go.Proofs
