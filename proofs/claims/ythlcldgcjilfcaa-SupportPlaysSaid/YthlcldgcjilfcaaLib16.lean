/-
  The calculus, sixteenth part: parts of one form laid one upon another; the turns of a range over a map.
-/
import Derived.Test.YthlcldgcjilfcaaLib15
import Derived.Maps.RangeRun
namespace Go.Wk
open Go Go.MapKept

/-- For each of a list its own part. -/
def StarL {α : Type} (A : α → PH → PH → Prop) : List α → PH → PH → Prop
  | [] => fun M0 M => M = M0
  | x :: r => Star (A x) (StarL A r)
theorem Ly.none : Ly (fun M0 M => M = M0) := by
  rintro M0 M rfl
  exact ⟨[], Lay.refl _, by simp, fun N0 N l _ => funext fun b => l.rest b (by simp)⟩
section
variable {α : Type} {A : α → PH → PH → Prop} {M0 M1 M N : PH} {x : α}
theorem Ly.starL (hA : ∀ x, Ly (A x)) : ∀ l, Ly (StarL A l)
  | [] => Ly.none
  | x :: r => Ly.star (hA x) (Ly.starL hA r)
theorem StarL.app : ∀ {l1 l2 : List α} {M0 M1 M : PH}, StarL A l1 M0 M1 → StarL A l2 M1 M → StarL A (l1 ++ l2) M0 M
  | [], _, _, _, _, h1, h2 => by have h1' : _ = _ := h1; subst h1'; exact h2
  | _ :: _, _, _, _, _, ⟨N, a, h1⟩, h2 => ⟨N, a, h1.app h2⟩
theorem StarL.split : ∀ {l1 l2 : List α} {M0 M : PH}, StarL A (l1 ++ l2) M0 M → ∃ M1, StarL A l1 M0 M1 ∧ StarL A l2 M1 M
  | [], _, M0, _, h => ⟨M0, rfl, h⟩
  | _ :: _, _, _, _, ⟨N, a, h⟩ => by
    obtain ⟨M1, h1, h2⟩ := StarL.split h
    exact ⟨M1, ⟨N, a, h1⟩, h2⟩
theorem StarL.one (a : A x M0 M) : StarL A [x] M0 M := ⟨M, a, rfl⟩
theorem StarL.push {l : List α} (h : StarL A l M0 N) (a : A x N M) : StarL A (l ++ [x]) M0 M := h.app (StarL.one a)
theorem StarL.pick (hA : ∀ x, Ly (A x)) {l1 l2 : List α} (h : StarL A (l1 ++ x :: l2) M0 M) : ∃ N, StarL A (l1 ++ l2) M0 N ∧ A x N M := by
  obtain ⟨M1, h1, M2, a, h2⟩ := h.split
  obtain ⟨N, b, c⟩ := Ly.swap (hA x) (Ly.starL hA l2) a h2
  exact ⟨N, h1.app b, c⟩
theorem StarL.put (hA : ∀ x, Ly (A x)) {l1 l2 : List α} (h : StarL A (l1 ++ l2) M0 N) (a : A x N M) : StarL A (l1 ++ x :: l2) M0 M := by
  obtain ⟨M1, h1, h2⟩ := h.split
  obtain ⟨N', b, c⟩ := Ly.swap (Ly.starL hA l2) (hA x) h2 a
  exact h1.app ⟨N', b, c⟩
theorem at_parts {l : List α} {k : Nat} {d : α} (hk : k < l.length) : l = l.take k ++ l.getD k d :: l.drop (k + 1) := by
  have e : l.getD k d = l[k] := by simp [List.getD, hk]
  rw [e]; simp
theorem StarL.pickAt (hA : ∀ x, Ly (A x)) {l : List α} {k : Nat} (d : α) (hk : k < l.length) (h : StarL A l M0 M) : ∃ N, StarL A (l.take k ++ l.drop (k + 1)) M0 N ∧ A (l.getD k d) N M := by
  rw [at_parts (d := d) hk] at h
  exact h.pick hA
theorem StarL.putAt (hA : ∀ x, Ly (A x)) {l : List α} {k : Nat} (hk : k < l.length) (h : StarL A (l.take k ++ l.drop (k + 1)) M0 N) (a : A x N M) : StarL A (l.set k x) M0 M := by
  rw [List.set_eq_take_append_cons_drop, if_pos hk]
  exact h.put hA a
theorem StarL.read (hA : ∀ x, Ly (A x)) {l : List α} {k : Nat} (d : α) (hk : k < l.length) (h : StarL A l M0 M) : ∃ N, A (l.getD k d) N M ∧ PH.le M0 N := by
  obtain ⟨N, h1, a⟩ := h.pickAt hA d hk
  exact ⟨N, a, Ly.le (Ly.starL hA _) h1⟩
end

/-! ### range over a map -/
def bornAt (es : Array MapEntry) (j : Nat) : Nat := (es.toList.map (·.born)).getD j 0
/-- The entries that came already: numbers js, the last one first. -/
structure IterIs (es : Array MapEntry) (seen : Array Nat) (js : List Nat) : Prop where
  seen : seen.toList = js.reverse.map (bornAt es)
  nodup : js.Nodup
  lt : ∀ j ∈ js, j < es.size
theorem IterIs.start (es : Array MapEntry) : IterIs es #[] [] := ⟨rfl, List.nodup_nil, by simp⟩
theorem bornAt_get {es : Array MapEntry} {j : Nat} (h : j < es.size) : bornAt es j = es[j].born := by
  unfold bornAt; simp [List.getD, h]
theorem bornAt_inj {es : Array MapEntry} {clk : Nat} (S : Stamped es clk) {i j : Nat} (hi : i < es.size) (hj : j < es.size) (e : bornAt es i = bornAt es j) : i = j := by
  have hn := S.2.1
  rw [bornAt_get hi, bornAt_get hj] at e
  have h1 : i < (es.toList.map (·.born)).length := by simpa using hi
  have h2 : j < (es.toList.map (·.born)).length := by simpa using hj
  have e2 : (es.toList.map (·.born))[i] = (es.toList.map (·.born))[j] := by simpa using e
  rcases Nat.lt_trichotomy i j with q | q | q
  · exact absurd e2 (List.pairwise_iff_getElem.1 hn i j h1 h2 q)
  · exact q
  · exact absurd e2.symm (List.pairwise_iff_getElem.1 hn j i h2 h1 q)
section
variable {P : Program} {K : Key} {w : World} {h M0 M : PH} {κ S : Type} {d : TypeDesc} {ke : κ → Value} {es : Array MapEntry} {clk : Nat} {f : S → κ × Value} {rs : List S} {r bm : Nat} {seen : Array Nat} {js : List Nat}
theorem MapIs.row (mi : MapIs d ke es clk (rs.map f)) (dd : S) {j : Nat} (hj : j < es.size) : es[j].key = ke (f (rs.getD j dd)).1 ∧ es[j].val = (f (rs.getD j dd)).2 ∧ j < rs.length := by
  have hl : j < rs.length := by have := mi.size; simp only [List.length_map] at this; omega
  obtain ⟨p, hp, e1, e2⟩ := mi.get (j := j) (e := es[j]) (by simp [hj])
  have e : rs.getD j dd = rs[j] := by simp [List.getD, hl]
  simp only [List.getElem?_map, List.getElem?_eq_getElem hl, Option.map_some, Option.some.injEq] at hp
  subst hp
  rw [e]; exact ⟨e1, e2, hl⟩
theorem iter_next (dd : S) (G : Wld K w h M) (B : Blk r (.mapIter (some bm) clk seen clk) M0 M) (hb : PH.all w bm = some (.map es clk)) (mi : MapIs d ke es clk (rs.map f)) (it : IterIs es seen js) (ty : TypeId) :
    ((∀ j < rs.length, j ∈ js) ∧ (Instr.next (.pointer (some ⟨r, 0, none⟩)) false ty).run P w = .ok (.tuple #[.bool false]) w) ∨
    ∃ j w' M' seen', j < rs.length ∧ j ∉ js ∧ (Instr.next (.pointer (some ⟨r, 0, none⟩)) false ty).run P w = .ok (.tuple #[.bool true, ke (f (rs.getD j dd)).1, (f (rs.getD j dd)).2]) w' ∧
      Wld K w' h M' ∧ Blk r (.mapIter (some bm) clk seen' clk) M0 M' ∧ IterIs es seen' (j :: js) := by
  have hsz : es.size = rs.length := by simpa using mi.size
  rcases run_next_at (P := P) w ty r bm clk clk seen es clk (G.own _ _ B.at) hb mi.stamped.1 (Nat.le_refl _) with ⟨h0, hr⟩ | ⟨e, he, w1, hw, hr⟩
  · refine .inl ⟨fun j hj => ?_, hr⟩
    have hj' : j < es.size := by omega
    have hin : seen.contains es[j].born = true := by
      by_cases hc : seen.contains es[j].born = true
      · exact hc
      · exfalso
        have hm : es[j] ∈ leftOf es seen := by
          unfold leftOf; rw [Array.mem_filter]
          exact ⟨Array.getElem_mem hj', by simpa using hc⟩
        have := Array.size_pos_of_mem hm
        omega
    have hm : es[j].born ∈ seen.toList := by simpa [Array.contains_iff_mem] using hin
    rw [it.seen] at hm
    obtain ⟨i, hi, e⟩ := List.mem_map.1 hm
    have hi' : i ∈ js := by simpa using hi
    have := bornAt_inj mi.stamped (it.lt i hi') hj' (by rw [e, bornAt_get hj'])
    exact this ▸ hi'
  · have he2 : e ∈ es ∧ ¬ seen.contains e.born = true := by
      have : e ∈ leftOf es seen := by simpa using he
      unfold leftOf at this; rw [Array.mem_filter] at this
      exact ⟨this.1, by simpa using this.2⟩
    obtain ⟨j, hj, ej⟩ := Array.getElem_of_mem he2.1
    obtain ⟨e1, e2, hl⟩ := mi.row dd hj
    rw [ej] at e1 e2
    have hnj : j ∉ js := fun hj2 => he2.2 (by
      rw [Array.contains_iff_mem]
      have : e.born ∈ seen.toList := by rw [it.seen]; exact List.mem_map.2 ⟨j, by simpa using hj2, by rw [bornAt_get hj, ej]⟩
      simpa using this)
    have G1 : Wld K w1 h M := by
      rcases hw with rfl | rfl
      · exact G
      · exact G.drew'
    refine .inr ⟨j, _, _, seen.push e.born, hl, hnj, by rw [hr, e1, e2]; rfl, G1.setObj (.mapIter (some bm) clk (seen.push e.born) clk) B.at, ⟨B.1, by rw [B.2, PH.set_set]⟩, ?_, List.nodup_cons.2 ⟨hnj, it.nodup⟩, ?_⟩
    · rw [Array.toList_push, it.seen, List.reverse_cons, List.map_append, List.map_cons, List.map_nil, bornAt_get hj, ej]
    · intro i hi
      rcases List.mem_cons.1 hi with rfl | hi
      · exact hj
      · exact it.lt i hi
variable {env : Env} {o : Oper} {x : Operand}
theorem q_nextRun {v : Value} {w' : World} (ho : o.op = .next x false) (hx : ev env x = .pointer (some ⟨r, 0, none⟩)) (hr : (Instr.next (.pointer (some ⟨r, 0, none⟩)) false o.type).run P w = .ok v w') : runs P env o w v w' := by
  unfold runs
  simp only [execOp, ho]
  exact rv (by rw [hx]; exact hr)
theorem q_entry (dd : S) {j : Nat} (ho : o.op = .entry x) (hx : ev env x = .pointer (some ⟨r, 0, none⟩)) (hr : PH.all w r = some (.mapIter (some bm) clk seen clk)) (hb : PH.all w bm = some (.map es clk))
    (mi : MapIs d ke es clk (rs.map f)) (it : IterIs es seen (j :: js)) : runs P env o w (.tuple #[ke (f (rs.getD j dd)).1, (f (rs.getD j dd)).2]) w := by
  have hj := it.lt j (by simp)
  obtain ⟨e1, e2, _⟩ := mi.row dd hj
  have hs : ∃ s0 : Array Nat, seen = s0.push es[j].born := by
    refine ⟨⟨js.reverse.map (bornAt es)⟩, ?_⟩
    have := it.seen
    rw [List.reverse_cons, List.map_append, List.map_cons, List.map_nil, bornAt_get hj] at this
    apply Array.toList_inj.1
    rw [this]; simp
  obtain ⟨s0, rfl⟩ := hs
  have h1 := run_entry_at (P := P) w r bm clk s0 es clk es[j] hr hb (by simp) mi.stamped.2.1
  rw [e1, e2] at h1
  unfold runs
  simp only [execOp, ho]
  exact rv (by rw [hx]; exact h1)
theorem q_range {t k e : TypeId} (ho : o.op = .range t x) (ht : P.underlying t = some (.map k e)) (hx : ev env x = .map (some bm)) (hb : PH.all w bm = some (.map es clk)) (G : Wld K w h M) :
    Does P env o w fun v w' => ∃ b M', v = .pointer (some ⟨b, 0, none⟩) ∧ Wld K w' h M' ∧ Blk b (.mapIter (some bm) clk #[] clk) M M' ∧ IterIs es #[] [] := by
  have hb' : w.heap[bm]? = some (.map es clk) := hb
  have hr : (Instr.range t (.map (some bm))).run P w = .ok (.pointer (some ⟨w.heap.size, 0, none⟩)) (w.alloc (.mapIter (some bm) clk #[] clk)) := by
    simp only [Instr.range, Sem.run_bind, run_underlying ht, Result.andThen_ok]
    rw [show (getObj bm).run P w = .ok (.map es clk) w by simp [getObj, Sem.run, hb']]
    rfl
  refine ⟨_, _, ?_, _, _, rfl, G.alloc _, ⟨G.new.1, rfl⟩, IterIs.start _⟩
  simp only [execOp, ho]
  exact rv (by rw [hx]; exact hr)
end
end Go.Wk
