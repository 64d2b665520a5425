/-
  The calculus, thirteenth part: parts of own slices; append where there is room; what lies behind a slice's end is cleared.
-/
import Derived.Test.YthlcldgcjilfcaaLib12
namespace Go.Wk
open Go

variable {S : Type} {E : Enc S}
theorem flat_drop (E : Enc S) (xs : List S) (i : Nat) (h : i ≤ xs.length) : flat E (xs.drop i) = (flat E xs).drop (i * E.sz) := by
  have e : flat E xs = flat E (xs.take i) ++ flat E (xs.drop i) := by rw [← flat_append, List.take_append_drop]
  rw [e]
  have : i * E.sz = (flat E (xs.take i)).length := by rw [flat_length, List.length_take, Nat.min_eq_left h]
  rw [this]
  exact List.drop_left.symm
/-- A part of what reads as xs. -/
theorem RS.aft {h : PH} {a : Option Addr} {xs : List S} (r : RS h E a xs) {cap lo : Nat} (hlo : lo ≤ xs.length) (hc : xs.length ≤ cap) : RS h E (aft a cap lo E.sz) (xs.drop lo) := by
  by_cases hd : xs.drop lo = []
  · exact .inl hd
  · have hlt : lo < xs.length := by
      rcases Nat.lt_or_ge lo xs.length with q | q
      · exact q
      · exact absurd (List.drop_of_length_le q) hd
    rcases r with rfl | ⟨b, off, cs, t, fr, rfl, hb, hcs⟩
    · simp at hlt
    · refine .inr ⟨b, off + lo * E.sz, cs, t, fr, ?_, hb, fun j v hv => ?_⟩
      · have : ¬ cap = lo := by omega
        simp only [Wk.aft, if_neg this, Option.map_some, add_at]
      · rw [flat_drop E xs lo hlo, List.getElem?_drop] at hv
        rw [Nat.add_assoc]; exact hcs _ _ hv
theorem RS.take {h : PH} {a : Option Addr} {xs : List S} (r : RS h E a xs) (i : Nat) : RS h E a (xs.take i) := by
  rcases r with rfl | ⟨b, off, cs, t, fr, ha, hb, hcs⟩
  · exact .inl (by simp)
  · refine .inr ⟨b, off, cs, t, fr, ha, hb, fun j v hv => ?_⟩
    rcases Nat.lt_or_ge i xs.length with hi | hi
    · rw [flat_take E xs i (by omega), List.getElem?_take] at hv
      split at hv
      · exact hcs _ _ hv
      · cases hv
    · rw [List.take_of_length_le hi] at hv; exact hcs _ _ hv
/-- A slice may be told shorter of capacity. -/
theorem Own.slack {t : TypeId} {M0 M : PH} {a : Option Addr} {c c' : Nat} {xs : List S} (o : Own t E M0 M a c xs) (h1 : xs.length ≤ c') (h2 : c' ≤ c) : Own t E M0 M a c' xs := by
  rcases o with ⟨h3, rfl, h4, h5⟩ | ⟨g, cur, ha, h0, hM, hx, hc, hs, ht⟩
  · exact .inl ⟨h3, by omega, h4, h5⟩
  · exact .inr ⟨g, cur, ha, h0, hM, h1, by omega, Nat.le_trans (Nat.mul_le_mul_right _ h2) hs, ht⟩
/-- APPEND WHERE THERE IS ROOM: the same array. -/
theorem Own.appendRoom {P : Program} {t ty e : TypeId} {i : TypeInfo} (ht : P.underlying t = some (.slice e)) (hi : P.info? e = some i) (hsz : i.size = E.sz) {K : Key} {w : World} {h M M0 : PH} {a : Option Addr} {cap : Nat} {xs ys : List S} (G : Wld K w h M)
    (o : Own e E M0 M a cap xs) {a2 : Option Addr} {c2 : Nat} (r : RS (PH.all w) E a2 ys) (hroom : xs.length + ys.length ≤ cap) :
    ∃ w' M', (Builtin.append_ #[t, t] ty #[.slice a xs.length cap, .slice a2 ys.length c2]).run P w = .ok (.slice a (xs ++ ys).length cap) w' ∧
      Wld K w' h M' ∧ Own e E M0 M' a cap (xs ++ ys) := by
  by_cases hy : ys = []
  · subst hy
    refine ⟨w, M, ?_, G, by simpa using o⟩
    rcases o with ⟨rfl, rfl, rfl, rfl⟩ | ⟨g, cur, rfl, h0, rfl, hx, hc, hs, htk⟩
    · cases a2 <;> simp [Builtin.append_, run_underlying ht, sizeOf, typeInfo, hi, Builtin.lenOf, Builtin.firstCells, loadCells, loadCellsFrom]
    · cases a2 <;> simp [Builtin.append_, run_underlying ht, sizeOf, typeInfo, hi, Builtin.lenOf, Builtin.firstCells, loadCells, loadCellsFrom, hx, storeCells]
  · obtain ⟨ad, rfl⟩ : ∃ ad, a2 = some ad := by
      rcases r with r | ⟨b, off, cs, t', fr, ha, _⟩
      · exact absurd r hy
      · exact ⟨_, ha⟩
    have hnews := r.cells (PH.le_refl _) hy
    have hlen : (flat E ys).length = ys.length * i.size := by rw [flat_length, hsz]
    have hpos : 0 < ys.length := List.length_pos_iff.2 hy
    rcases o with ⟨rfl, rfl, rfl, rfl⟩ | ⟨g, cur, rfl, h0, rfl, hx, hc, hs, htk⟩
    · simp only [List.length_nil] at hroom; omega
    · have hb := G.own _ _ (PH.set_same M0 g _)
      have hfit : xs.length * i.size + (flat E ys).length ≤ cur.size := Nat.le_trans (by rw [hlen, hsz, ← Nat.add_mul]; exact Nat.mul_le_mul_right _ hroom) hs
      have hr := run_append_room (P := P) w t ty e i ht hi g xs.length cap cur hb ad ys.length c2 (flat E ys) hlen hnews (flat_one E ys) hroom hfit
      have G2 := G.setRow (cur.toList.take (xs.length * i.size) ++ flat E ys ++ cur.toList.drop (xs.length * i.size + (flat E ys).length)).toArray (PH.set_same M0 g _)
      rw [PH.set_set] at G2
      refine ⟨_, _, by rw [List.length_append]; exact hr, G2, .inr ⟨g, _, rfl, h0, rfl, by simpa using hroom, hc, ?_, ?_⟩⟩
      · simp only [List.size_toArray, List.length_append, List.length_take, List.length_drop, Array.length_toList]
        omega
      · rw [hsz, htk, ← flat_length, ← flat_append]
        exact List.take_left

section
variable {P : Program} {ops : Array Oper} {Q : Exit → Act → World → Prop} {o : Oper} {rest : List Oper} {n : Nat} {env : Env} {w w' : World} {K : Key} {h M M0 : PH}
theorem q_appRoom {s x : Operand} {t e : TypeId} {bytes cap : Nat} {a : Option Addr} {xs ys : List S} {a2 : Option Addr} {c2 : Nat}
    (G : Wld K w h M) (own : Own e E M0 M a cap xs) (r : RS (PH.all w) E a2 ys)
    (ho : o.op = .call { callee := .builtin .append, args := #[s, x], argTypes := #[t, t] }) (ht : appT P t e E.sz bytes = true) (hs : ev env s = .slice a xs.length cap) (hx : ev env x = .slice a2 ys.length c2) (hroom : xs.length + ys.length ≤ cap) :
    Does P env o w fun v w' => ∃ M', v = .slice a (xs ++ ys).length cap ∧ Wld K w' h M' ∧ Own e E M0 M' a cap (xs ++ ys) := by
  obtain ⟨h1, i, z, hi, hz, hsz, hby, hzs⟩ := appT_spec ht
  obtain ⟨w', M', hr, g1, g2⟩ := Own.appendRoom (ty := o.type) h1 hi hsz G own r (c2 := c2) hroom
  refine ⟨_, w', ?_, M', rfl, g1, g2⟩
  simp only [execOp, ho, resolve, Sem.run_bind, Sem.run_pure, Result.andThen_ok, invoke, builtin, List.map_toArray, List.map_cons, List.map_nil, hs, hx, hr]
/-- s[lo:hi:mx]. -/
theorem q_slice3 {x a1 a2 a3 : Operand} {t e sz : Nat} {a : Option Addr} {len cap lo hi mx : Nat} {k k' k'' : IntKind} (ho : o.op = .slice t x (some a1) (some a2) (some a3)) (ht : sliceT P t e sz = true)
    (hx : ev env x = .slice a len cap) (h1 : ev env a1 = .int k (lo : Int)) (h2 : ev env a2 = .int k' (hi : Int)) (h3 : ev env a3 = .int k'' (mx : Int)) (hlo : lo ≤ hi) (hhi : hi ≤ mx) (hmx : mx ≤ cap) :
    runs P env o w (.slice (aft a mx lo sz) (hi - lo) (mx - lo)) w := by
  unfold runs
  simp only [execOp, ho, Option.map_some]
  refine rv ?_
  rw [hx, h1, h2, h3]
  refine run_sliceAt ht _ _ _ _ ?_
  obtain ⟨g1, inf, g2, g3⟩ := sliceT_spec ht
  simp only [Instr.slice, Instr.sliceBounds, Sem.run_bind, run_underlying g1, Result.andThen_ok, run_bound hlo, run_bound hhi, run_bound hmx, Sem.run_pure]
  simp only [sizeOf, typeInfo, Sem.run_bind, run_program, g2, Result.andThen_ok, Sem.run_pure, g3, Wk.aft]
/-- s[lo:hi]. -/
theorem q_lohi {x a1 a2 : Operand} {t e sz : Nat} {a : Option Addr} {len cap lo hi : Nat} {k k' : IntKind} (ho : o.op = .slice t x (some a1) (some a2) none) (ht : sliceT P t e sz = true)
    (hx : ev env x = .slice a len cap) (h1 : ev env a1 = .int k (lo : Int)) (h2 : ev env a2 = .int k' (hi : Int)) (hlo : lo ≤ hi) (hhi : hi ≤ cap) :
    runs P env o w (.slice (aft a cap lo sz) (hi - lo) (cap - lo)) w := by
  unfold runs
  simp only [execOp, ho, Option.map_some, Option.map_none]
  refine rv ?_
  rw [hx, h1, h2]
  refine run_sliceAt ht _ _ _ _ ?_
  obtain ⟨g1, inf, g2, g3⟩ := sliceT_spec ht
  simp only [Instr.slice, Instr.sliceBounds, Sem.run_bind, run_underlying g1, Result.andThen_ok, run_bound hlo, run_bound hhi, Sem.run_pure]
  simp only [sizeOf, typeInfo, Sem.run_bind, run_program, g2, Result.andThen_ok, Sem.run_pure, g3, Wk.aft]
/-- clear(s[lo:hi]) behind the end. -/
theorem q_clearOut {x : Operand} {t e : TypeId} {z : Value} {a : Option Addr} {cap : Nat} {xs : List S} {lo m : Nat} (G : Wld K w h M) (ow : Own e E M0 M a cap xs) (hlo : xs.length ≤ lo) (hm : lo + m ≤ cap)
    (ho : o.op = .call { callee := .builtin .clear, args := #[x], argTypes := #[t] }) (ht : sliceT P t e E.sz = true) (hz : (P.info? e).bind (·.zero) = some z) (hzs : z.cells.size = E.sz)
    (hz1 : ∀ u ∈ z.cells.toList, u.oneCell' = true) (hx : ev env x = .slice (aft a cap lo E.sz) m (cap - lo)) :
    Does P env o w fun v w' => ∃ M', v = .tuple #[] ∧ Wld K w' h M' ∧ Own e E M0 M' a cap xs := by
  obtain ⟨g1, inf, g2, g3⟩ := sliceT_spec ht
  have hr0 : ∀ (v : Value) (W W' : World), (Builtin.clear_ #[t] o.type #[v]).run P W = .ok (.tuple #[]) W' → ev env x = v → (execOp (ev env) o).run P W = .ok (.value (.tuple #[])) W' := by
    intro v W W' hr hv
    simp only [execOp, ho, resolve, Sem.run_bind, Sem.run_pure, Result.andThen_ok, invoke, builtin, List.map_toArray, List.map_cons, List.map_nil, hv, hr]
  by_cases hm0 : m = 0
  · subst hm0
    refine ⟨.tuple #[], w, hr0 _ w w ?_ hx, M, rfl, G, ow⟩
    cases Wk.aft a cap lo E.sz <;> simp [Builtin.clear_, run_underlying g1]
  · rcases ow with ⟨_, rfl, _, _⟩ | ⟨g, cur, rfl, h0, rfl, hxc, hc, hs, htk⟩
    · omega
    · have hcap : ¬ cap = lo := by omega
      have haft : Wk.aft (some ⟨g, 0, none⟩) cap lo E.sz = some ⟨g, lo * E.sz, none⟩ := by simp only [Wk.aft, if_neg hcap, Option.map_some, add_at]; simp
      rw [haft] at hx
      have hzl : (Builtin.zeroCells z.cells m).toList.length = m * E.sz := by rw [Array.length_toList, size_zeroCells, hzs]
      have hfit : lo * E.sz + (Builtin.zeroCells z.cells m).toList.length ≤ cur.size := by
        exact Nat.le_trans (by rw [hzl, ← Nat.add_mul]; exact Nat.mul_le_mul_right _ (by omega)) hs
      have hone : ∀ u ∈ (Builtin.zeroCells z.cells m).toList, u.oneCell' = true := by
        intro u hu
        simp only [Builtin.zeroCells, Array.toList_map, List.mem_map] at hu
        obtain ⟨j, hj, rfl⟩ := hu
        have hpos : 0 < z.cells.size := by rw [hzs]; exact E.pos
        have hlt := Nat.mod_lt j hpos
        rw [getElem!_pos z.cells (j % z.cells.size) hlt]
        exact hz1 _ (by simp)
      have hst := run_storeCells_at P g (lo * E.sz) e _ 0 cur w (G.own _ _ (PH.set_same M0 g _)) (by simpa using hfit) hone
      simp only [Nat.add_zero] at hst
      have G' := G.setRow (cur.toList.take (lo * E.sz) ++ (Builtin.zeroCells z.cells m).toList ++ cur.toList.drop (lo * E.sz + (Builtin.zeroCells z.cells m).toList.length)).toArray (PH.set_same M0 g _)
      rw [PH.set_set] at G'
      obtain ⟨m', hm'⟩ : ∃ m', m = m' + 1 := ⟨m - 1, by omega⟩
      refine ⟨.tuple #[], _, hr0 _ w _ ?_ hx, _, rfl, G', .inr ⟨g, _, rfl, h0, rfl, hxc, hc, ?_, ?_⟩⟩
      · rw [hm'] at hst ⊢
        simp [Builtin.clear_, run_underlying g1, run_zero hz, hst]
      · simp only [List.size_toArray, List.length_append, List.length_take, List.length_drop, Array.length_toList]
        rw [Array.length_toList] at hfit
        omega
      · have hle : xs.length * E.sz ≤ lo * E.sz := Nat.mul_le_mul_right _ hlo
        have hle2 : lo * E.sz ≤ cur.toList.length := by rw [Array.length_toList]; omega
        rw [List.append_assoc, List.take_append_of_le_length (by rw [List.length_take]; omega), List.take_take, Nat.min_eq_left hle]
        exact htk
end
end Go.Wk
