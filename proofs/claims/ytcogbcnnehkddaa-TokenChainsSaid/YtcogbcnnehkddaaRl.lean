/-
  A tree of tokens and the row of tokens that it stands for.
-/
import Derived.Test.YtcogbcnnehkddaaTr
import Derived.Test.YtcogbcnnehkddaaPl
namespace Go.Wk
open Go

def kidsOf (row : List Tok) (id : Int) : List Int := (row.filter fun t => t.parent = id).map (·.id)
/-- Ids rise from 1 to last; a parent is the root or stands ahead. -/
structure RowWf (row : List Tok) (last : Int) : Prop where
  rise : (row.map (·.id)).Pairwise (· < ·)
  bd : ∀ t ∈ row, 1 ≤ t.id ∧ t.id ≤ last
  ahead : Ahead row
structure Rel (ns : List Nd) (row : List Tok) (last : Int) : Prop where
  root : ∃ n ∈ ns, n.id = 0
  node : ∀ n ∈ ns, n.id = 0 ∨ (⟨n.id, n.parent, n.fact⟩ : Tok) ∈ row
  tok : ∀ t ∈ row, ∃ n ∈ ns, n.id = t.id ∧ n.parent = t.parent ∧ n.fact = t.fact
  kids : ∀ n ∈ ns, n.kids = kidsOf row n.id
  len : ns.length = row.length + 1
  wf : RowWf row last
/-- In M a tree at p stands for the row; about it lies M0. -/
def TreeA (M0 M : PH) (p : Nat) (row : List Tok) (last : Int) : Prop := ∃ bm ns, TreeM M0 M p bm ns last ∧ Rel ns row last

theorem has_iff {row : List Tok} {id : Int} : 0 ≤ atF row id ↔ ∃ t ∈ row, t.id = id := by
  constructor
  · intro h
    obtain ⟨_, h2, h3⟩ := atF_nat h
    exact ⟨_, getD_mem h2, h3⟩
  · rintro ⟨t, ht, rfl⟩
    obtain ⟨j, hj, rfl⟩ := List.getElem_of_mem ht
    obtain ⟨i, hi, _⟩ := findIdx_le (l := row) (id := row[j].id) hj (by simp [List.getD, hj])
    rw [atF_of hi]; omega
theorem Rel.find {ns : List Nd} {row : List Tok} {last : Int} (R : Rel ns row last) {id : Int} (h : id = 0 ∨ 0 ≤ atF row id) : ∃ n ∈ ns, n.id = id := by
  rcases h with rfl | h
  · exact R.root
  · obtain ⟨t, ht, rfl⟩ := has_iff.1 h
    obtain ⟨n, hn, h1, _⟩ := R.tok t ht
    exact ⟨n, hn, h1⟩
theorem Rel.lacks {ns : List Nd} {row : List Tok} {last : Int} (R : Rel ns row last) {id : Int} (h0 : id ≠ 0) (h : atF row id < 0) : ∀ n ∈ ns, n.id ≠ id := by
  rintro n hn rfl
  rcases R.node n hn with h1 | h1
  · exact h0 h1
  · have := has_iff.2 ⟨_, h1, rfl⟩
    simp only at this
    omega
theorem kidsOf_len (row : List Tok) (id : Int) : (kidsOf row id).length ≤ row.length := by
  unfold kidsOf; rw [List.length_map]; exact List.length_filter_le _ _

theorem split_of_mem {ns : List Nd} {n : Nd} (h : n ∈ ns) : ∃ l r, ns = l ++ n :: r := List.append_of_mem h

theorem Rel.empty (b : Nat) : Rel [⟨0, -1, 0, [], b, none, 0⟩] [] 0 :=
  ⟨⟨_, List.mem_singleton.2 rfl, rfl⟩, fun n hn => by simp only [List.mem_singleton] at hn; subst hn; exact .inl rfl, by simp, fun n hn => by simp only [List.mem_singleton] at hn; subst hn; rfl, rfl,
    ⟨by simp, by simp, fun i hi => by simp at hi⟩⟩

theorem kidsOf_snoc (row : List Tok) (t : Tok) (id : Int) : kidsOf (row ++ [t]) id = kidsOf row id ++ (if t.parent = id then [t.id] else []) := by
  unfold kidsOf
  rw [List.filter_append, List.map_append]
  congr 1
  by_cases h : t.parent = id <;> simp [h]

theorem Rel.fresh {l r : List Nd} {n : Nd} {row : List Tok} {last : Int} (R : Rel (l ++ n :: r) row last) (hl : 0 ≤ last) (ks : List Int) (ka : Option Addr) (kc : Nat) :
    ∀ m ∈ l ++ { n with kids := ks, ka := ka, kc := kc } :: r, m.id ≠ last + 1 := by
  have key : ∀ m ∈ l ++ n :: r, m.id ≠ last + 1 := fun m hm e => by
    rcases R.node m hm with h | h
    · omega
    · have := (R.wf.bd _ h).2; simp only at this; omega
  intro m hm
  simp only [List.mem_append, List.mem_cons] at hm
  rcases hm with hm | rfl | hm
  · exact key m (by simp [hm])
  · exact key n (by simp)
  · exact key m (by simp [hm])

/-- A new token at a node. -/
theorem Rel.add {l r : List Nd} {n : Nd} {row : List Tok} {last : Int} (R : Rel (l ++ n :: r) row last) (hnd : ((l ++ n :: r).map (·.id)).Nodup) (hl : 0 ≤ last) (fact : Int) (nb : Nat) (ka : Option Addr) (kc : Nat) :
    Rel (l ++ { n with kids := n.kids ++ [last + 1], ka := ka, kc := kc } :: r ++ [⟨last + 1, n.id, fact, [], nb, none, 0⟩]) (row ++ [Tok.mk (last + 1) n.id fact]) (last + 1) := by
  have hnew : ∀ t ∈ row, t.id ≠ last + 1 := fun t ht e => by have := (R.wf.bd t ht).2; omega
  have hpar : ∀ t ∈ row, t.parent ≠ last + 1 := fun t ht e => by
    obtain ⟨i, hi, rfl⟩ := List.getElem_of_mem ht
    rcases R.wf.ahead i hi with h | ⟨j, hj, h⟩
    · simp [List.getD, hi] at h; omega
    · simp only [List.getD, hi, List.getElem?_eq_getElem, Option.getD_some] at h
      have hj' : j < row.length := by omega
      rw [List.getElem?_eq_getElem hj', Option.getD_some] at h
      exact hnew _ (List.getElem_mem hj') (h.trans e)
  have hnid : n.id ≠ last + 1 := by
    rcases R.node n (by simp) with h | h
    · omega
    · exact hnew _ h
  have hids : ∀ m ∈ l ++ r, m.id ≠ n.id := by
    intro m hm e
    have hp : (l ++ n :: r).Perm (n :: (l ++ r)) := List.perm_middle
    have := ((hp.map (·.id)).nodup_iff).1 hnd
    simp only [List.map_cons, List.nodup_cons] at this
    exact this.1 (by rw [← e]; exact List.mem_map.2 ⟨m, hm, rfl⟩)
  refine ⟨?_, ?_, ?_, ?_, ?_, ?_, ?_, ?_⟩
  · obtain ⟨m, hm, h0⟩ := R.root
    rcases List.mem_append.1 hm with hm | hm
    · exact ⟨m, by simp [hm], h0⟩
    · rcases List.mem_cons.1 hm with rfl | hm
      · exact ⟨{ m with kids := m.kids ++ [last + 1], ka := ka, kc := kc }, by simp, h0⟩
      · exact ⟨m, by simp [hm], h0⟩
  · intro m hm
    simp only [List.mem_append, List.mem_cons, List.not_mem_nil, or_false] at hm ⊢
    rcases hm with (hm | rfl | hm) | rfl
    · exact (R.node m (by simp [hm])).imp id .inl
    · exact (R.node n (by simp)).imp id .inl
    · exact (R.node m (by simp [hm])).imp id .inl
    · exact .inr (.inr rfl)
  · intro t ht
    simp only [List.mem_append, List.mem_cons, List.not_mem_nil, or_false] at ht
    rcases ht with ht | rfl
    · obtain ⟨m, hm, h1, h2, h3⟩ := R.tok t ht
      rcases List.mem_append.1 hm with hm | hm
      · exact ⟨m, by simp [hm], h1, h2, h3⟩
      · rcases List.mem_cons.1 hm with rfl | hm
        · exact ⟨{ m with kids := m.kids ++ [last + 1], ka := ka, kc := kc }, by simp, h1, h2, h3⟩
        · exact ⟨m, by simp [hm], h1, h2, h3⟩
    · exact ⟨_, List.mem_append_right _ (List.mem_singleton.2 rfl), rfl, rfl, rfl⟩
  · intro m hm
    simp only [List.mem_append, List.mem_cons, List.not_mem_nil, or_false] at hm
    rw [kidsOf_snoc]
    rcases hm with (hm | rfl | hm) | rfl
    · rw [if_neg (Ne.symm (hids m (by simp [hm]))), List.append_nil]; exact R.kids m (by simp [hm])
    · simp only [if_true]; rw [R.kids n (by simp)]
    · rw [if_neg (Ne.symm (hids m (by simp [hm]))), List.append_nil]; exact R.kids m (by simp [hm])
    · simp only [if_neg hnid, List.append_nil]
      unfold kidsOf
      rw [List.filter_eq_nil_iff.2 (fun t ht => by simpa using hpar t ht)]
      rfl
  · simp only [List.length_append, List.length_cons, List.length_nil]; have := R.len; simp at this; omega
  · rw [List.map_append, List.pairwise_append]
    refine ⟨R.wf.rise, by simp, fun a ha b hb => ?_⟩
    obtain ⟨t, ht, rfl⟩ := List.mem_map.1 ha
    simp only [List.map_cons, List.map_nil, List.mem_singleton] at hb
    subst hb
    have := (R.wf.bd t ht).2
    omega
  · intro t ht
    rcases List.mem_append.1 ht with ht | ht
    · have := R.wf.bd t ht; omega
    · simp only [List.mem_singleton] at ht; subst ht; simp only; omega
  · intro i hi
    simp only [List.length_append, List.length_cons, List.length_nil] at hi
    by_cases h : i < row.length
    · have e : ∀ j, j < row.length → (row ++ [Tok.mk (last + 1) n.id fact]).getD j tokE.dflt = row.getD j tokE.dflt := fun j hj => by
        simp [List.getD, List.getElem?_append_left hj]
      rw [e i h]
      rcases R.wf.ahead i h with h1 | ⟨j, hj, h1⟩
      · exact .inl h1
      · exact .inr ⟨j, hj, by rw [e j (by omega)]; exact h1⟩
    · have hi' : i = row.length := by omega
      subst hi'
      have e : (row ++ [Tok.mk (last + 1) n.id fact]).getD row.length tokE.dflt = ⟨last + 1, n.id, fact⟩ := by simp [List.getD]
      rw [e]
      simp only
      rcases R.node n (by simp) with h1 | h1
      · exact .inl h1
      · right
        obtain ⟨j, hj, hj'⟩ := List.getElem_of_mem h1
        refine ⟨j, hj, ?_⟩
        simp [List.getD, List.getElem?_append_left hj, hj, hj']
theorem RowWf.uniq {row : List Tok} {last : Int} (wf : RowWf row last) {s t : Tok} (hs : s ∈ row) (ht : t ∈ row) (h : s.id = t.id) : s = t := by
  obtain ⟨i, hi, rfl⟩ := List.getElem_of_mem hs
  obtain ⟨j, hj, rfl⟩ := List.getElem_of_mem ht
  have hr := List.pairwise_iff_getElem.1 wf.rise
  rcases Nat.lt_trichotomy i j with q | q | q
  · have := hr i j (by simpa using hi) (by simpa using hj) q
    simp only [List.getElem_map] at this
    omega
  · subst q; rfl
  · have := hr j i (by simpa using hj) (by simpa using hi) q
    simp only [List.getElem_map] at this
    omega
theorem RowWf.at {row : List Tok} {last : Int} (wf : RowWf row last) {t : Tok} (ht : t ∈ row) : 0 ≤ atF row t.id ∧ row.getD (atF row t.id).toNat tokE.dflt = t := by
  have h : 0 ≤ atF row t.id := has_iff.2 ⟨t, ht, rfl⟩
  obtain ⟨_, h2, h3⟩ := atF_nat h
  exact ⟨h, wf.uniq (getD_mem h2) ht h3⟩
theorem RowWf.pos {row : List Tok} {last : Int} (wf : RowWf row last) {t : Tok} (ht : t ∈ row) : t.id ≠ 0 := by have := (wf.bd t ht).1; omega

/-- What the loop of Path keeps: 'out' has been found on the way up, the nearest first. -/
structure PathUp (l : List Tok) (id0 : Int) (id : Int) (n : Nat) (out : List Int) : Prop where
  sum : pathN l (l.length + 1) id0 = pathN l n id ++ out.reverse
  rank : rk l id ≤ n
  there : id = 0 ∨ 0 ≤ atF l id
  len : out.length + n ≤ l.length + 1
theorem PathUp.start {l : List Tok} {id : Int} (h : id = 0 ∨ 0 ≤ atF l id) : PathUp l id id (l.length + 1) [] := ⟨by simp, by have := rk_le l id; omega, h, by simp⟩
theorem PathUp.done {l : List Tok} {id0 : Int} {n : Nat} {out : List Int} (h : PathUp l id0 0 n out) : out.reverse = pathN l (l.length + 1) id0 := by rw [h.sum, pathN_zero]; rfl
theorem PathUp.step {l : List Tok} {last id0 id : Int} {n : Nat} {out : List Int} (wf : RowWf l last) (h : PathUp l id0 id n out) (h0 : id ≠ 0) {t : Tok} (ht : t ∈ l) (hid : t.id = id) :
    1 ≤ n ∧ PathUp l id0 t.parent (n - 1) (out ++ [t.fact]) := by
  have hat : 0 ≤ atF l id := by rw [← hid]; exact (wf.at ht).1
  obtain ⟨h1, p1⟩ := PathAt.step (out := out.reverse) wf.ahead ⟨h.sum, h.rank, .inr (h.there), by simpa using h.len⟩ h0 hat
  have e : l.getD (atF l id).toNat tokE.dflt = t := by rw [← hid]; exact (wf.at ht).2
  rw [e] at p1
  refine ⟨h1, by rw [p1.sum]; simp, p1.rank, ?_, by have := p1.len; simp at this ⊢; omega⟩
  rcases p1.there with q | q
  · simp at q
  · exact q
theorem pathN_len (l : List Tok) : ∀ n id, (pathN l n id).length ≤ n
  | 0, _ => by simp [pathN]
  | n + 1, id => by
    unfold pathN
    split
    · simp
    · split
      · have := pathN_len l n; simp only [List.length_append, List.length_cons, List.length_nil]; have := this (l.getD ‹Nat› tokE.dflt).parent; omega
      · simp
end Go.Wk
