/-
  Plain data and functions of the statements about tokens.
-/
import Derived.Test.YtcogbcnnehkddaaLib4
namespace Go.Wk
open Go

structure Tok where
  id : Int
  parent : Int
  fact : Int
deriving DecidableEq
def tokE : Enc Tok := ⟨3, fun t => [.int .i64 t.id, .int .i64 t.parent, .int .i64 t.fact], ⟨0, 0, 0⟩, by decide, fun _ => rfl, fun _ v hv => by
  simp only [List.mem_cons, List.not_mem_nil, or_false] at hv; rcases hv with rfl | rfl | rfl <;> rfl⟩
structure TAct where
  op : Int
  a : Int
  b : Int
def actE : Enc TAct := ⟨3, fun t => [.int .i64 t.op, .int .i64 t.a, .int .i64 t.b], ⟨0, 0, 0⟩, by decide, fun _ => rfl, fun _ v hv => by
  simp only [List.mem_cons, List.not_mem_nil, or_false] at hv; rcases hv with rfl | rfl | rfl <;> rfl⟩

/-- A token's place; -1: none. -/
def atF (l : List Tok) (id : Int) : Int := match l.findIdx? (fun t => t.id == id) with | some i => (i : Int) | none => -1

theorem atF_some {l : List Tok} {id : Int} {k : Nat} (hk : k < l.length) (hn : ∀ j < k, (l.getD j tokE.dflt).id ≠ id) (h : (l.getD k tokE.dflt).id = id) : atF l id = (k : Int) := by
  have : l.findIdx? (fun t => t.id == id) = some k := by
    rw [List.findIdx?_eq_some_iff_getElem]
    refine ⟨hk, by simpa [List.getD, hk] using h, fun j hj => ?_⟩
    have := hn j hj
    have hj' : j < l.length := by omega
    simpa [List.getD, hj'] using this
  simp [atF, this]
theorem atF_none {l : List Tok} {id : Int} (hn : ∀ j < l.length, (l.getD j tokE.dflt).id ≠ id) : atF l id = -1 := by
  have : l.findIdx? (fun t => t.id == id) = none := by
    rw [List.findIdx?_eq_none_iff]
    intro x hx
    obtain ⟨j, hj, rfl⟩ := List.getElem_of_mem hx
    have := hn j hj
    simpa [List.getD, hj] using this
  simp [atF, this]
theorem ints_t {xs ys : List Int} (hl : xs.length = ys.length) (h : ∀ j < xs.length, xs.getD j 0 = ys.getD j 0) : decide (xs = ys) = true := by
  refine decide_eq_true (List.ext_getElem hl fun j h1 h2 => ?_)
  have := h j h1
  simpa [List.getD, h1, h2] using this
theorem ints_f {xs ys : List Int} (h : xs.length ≠ ys.length ∨ ∃ k, k < xs.length ∧ xs.getD k 0 ≠ ys.getD k 0) : decide (xs = ys) = false := by
  refine decide_eq_false fun e => ?_
  subst e
  rcases h with h | ⟨k, _, h⟩ <;> exact h rfl
/-- One token passed by 'cut': what stays so far, which are gone. -/
def cutS (s : List Tok × List Int) (t : Tok) : List Tok × List Int := if t.id ∈ s.2 ∨ t.parent ∈ s.2 then (s.1, s.2 ++ [t.id]) else (s.1 ++ [t], s.2)
def cutK (l : List Tok) (g : List Int) (k : Nat) : List Tok × List Int := (l.take k).foldl cutS ([], g)
theorem cutK_zero (l : List Tok) (g : List Int) : cutK l g 0 = ([], g) := rfl
theorem cutK_succ (l : List Tok) (g : List Int) {k : Nat} (h : k < l.length) : cutK l g (k + 1) = cutS (cutK l g k) (l.getD k tokE.dflt) := by
  have e : l.getD k tokE.dflt = l[k] := by simp [List.getD, h]
  unfold cutK
  rw [List.take_succ_eq_append_getElem h, List.foldl_append, e]
  rfl
theorem cutK_yes (l : List Tok) (g : List Int) {k : Nat} (h : k < l.length) (hg : (l.getD k tokE.dflt).id ∈ (cutK l g k).2 ∨ (l.getD k tokE.dflt).parent ∈ (cutK l g k).2) :
    (cutK l g (k + 1)).1 = (cutK l g k).1 ∧ (cutK l g (k + 1)).2 = (cutK l g k).2 ++ [(l.getD k tokE.dflt).id] := by
  rw [cutK_succ l g h]; unfold cutS; rw [if_pos hg]; exact ⟨rfl, rfl⟩
theorem cutK_no (l : List Tok) (g : List Int) {k : Nat} (h : k < l.length) (hg : ¬ ((l.getD k tokE.dflt).id ∈ (cutK l g k).2 ∨ (l.getD k tokE.dflt).parent ∈ (cutK l g k).2)) :
    (cutK l g (k + 1)).1 = (cutK l g k).1 ++ [l.getD k tokE.dflt] ∧ (cutK l g (k + 1)).2 = (cutK l g k).2 := by
  rw [cutK_succ l g h]; unfold cutS; rw [if_neg hg]; exact ⟨rfl, rfl⟩
theorem cutK_len (l : List Tok) (g : List Int) (k : Nat) : (cutK l g k).1.length ≤ k ∧ (cutK l g k).2.length ≤ g.length + k := by
  induction k with
  | zero => simp [cutK_zero]
  | succ k ih =>
    rcases Nat.lt_or_ge k l.length with h | h
    · rw [cutK_succ l g h]; unfold cutS
      split <;> simp <;> omega
    · unfold cutK at *
      rw [List.take_of_length_le (by omega)] at *
      omega
def cutF (l : List Tok) (g : List Int) : List Tok := (cutK l g l.length).1
/-- Which are gone, in their order. -/
def idsK (l out : List Tok) (k : Nat) : List Int := ((l.take k).filter fun t => decide (atF out t.id < 0)).map (·.id)
def idsF (l : List Tok) (g : List Int) : List Int := idsK l (cutF l g) l.length
theorem idsK_succ (l out : List Tok) {k : Nat} (h : k < l.length) :
    idsK l out (k + 1) = idsK l out k ++ (if atF out (l.getD k tokE.dflt).id < 0 then [(l.getD k tokE.dflt).id] else []) := by
  have e : l.getD k tokE.dflt = l[k] := by simp [List.getD, h]
  unfold idsK
  rw [List.take_succ_eq_append_getElem h, List.filter_append, List.map_append, e]
  congr 1
  by_cases h1 : atF out l[k].id < 0 <;> simp [h1]
theorem idsK_len (l out : List Tok) (k : Nat) : (idsK l out k).length ≤ k := by
  unfold idsK
  rw [List.length_map]
  exact Nat.le_trans (List.length_filter_le _ _) (List.length_take_le _ _)
/-- Is a token gone, by the first j of those that are? -/
def goB (g : List Int) (t : Tok) (j : Nat) : Bool := (g.take j).any fun x => (x == t.id) || (x == t.parent)
theorem goB_zero (g : List Int) (t : Tok) : goB g t 0 = false := rfl
theorem goB_succ (g : List Int) (t : Tok) {j : Nat} (h : j < g.length) : goB g t (j + 1) = ((goB g t j || ((g.getD j intE.dflt) == t.id)) || ((g.getD j intE.dflt) == t.parent)) := by
  have e : g.getD j intE.dflt = g[j] := by simp [List.getD, h]
  unfold goB
  rw [List.take_succ_eq_append_getElem h, List.any_append, e]
  simp [Bool.or_assoc]
theorem goB_mem {g : List Int} {t : Tok} {j : Nat} (h : g.length ≤ j) : goB g t j = true ↔ (t.id ∈ g ∨ t.parent ∈ g) := by
  unfold goB
  rw [List.take_of_length_le h]
  simp only [List.any_eq_true, Bool.or_eq_true, beq_iff_eq]
  constructor
  · rintro ⟨x, hx, rfl | rfl⟩
    · exact .inl hx
    · exact .inr hx
  · rintro (h | h)
    · exact ⟨_, h, .inl rfl⟩
    · exact ⟨_, h, .inr rfl⟩
theorem goB_not {g : List Int} {t : Tok} {j : Nat} (h : g.length ≤ j) (hb : goB g t j = false) : ¬ (t.id ∈ g ∨ t.parent ∈ g) := fun e => by
  rw [(goB_mem h).2 e] at hb; cases hb
theorem idsK_yes (l out : List Tok) {k : Nat} (h : k < l.length) (hg : atF out (l.getD k tokE.dflt).id < 0) : idsK l out (k + 1) = idsK l out k ++ [(l.getD k tokE.dflt).id] := by
  rw [idsK_succ l out h, if_pos hg]
theorem idsK_no (l out : List Tok) {k : Nat} (h : k < l.length) (hg : ¬ atF out (l.getD k tokE.dflt).id < 0) : idsK l out (k + 1) = idsK l out k := by
  rw [idsK_succ l out h, if_neg hg, List.append_nil]

/-- The tokens' way to the root, as the statement reckons it; n: as many steps as may be. -/
def pathN (l : List Tok) : Nat → Int → List Int
  | 0, _ => []
  | n + 1, id => if id = 0 then [] else match l.findIdx? (fun t => t.id == id) with
    | some i => pathN l n (l.getD i tokE.dflt).parent ++ [(l.getD i tokE.dflt).fact]
    | none => []
/-- Parents stand ahead of their kids. -/
def Ahead (l : List Tok) : Prop := ∀ i, i < l.length → (l.getD i tokE.dflt).parent = 0 ∨ ∃ j, j < i ∧ (l.getD j tokE.dflt).id = (l.getD i tokE.dflt).parent
def rk (l : List Tok) (id : Int) : Nat := if id = 0 then 0 else match l.findIdx? (fun t => t.id == id) with | some i => i + 1 | none => 0
theorem atF_of {l : List Tok} {id : Int} {i : Nat} (h : l.findIdx? (fun t => t.id == id) = some i) : atF l id = (i : Int) := by unfold atF; rw [h]
theorem atF_nat {l : List Tok} {id : Int} (h : 0 ≤ atF l id) : l.findIdx? (fun t => t.id == id) = some (atF l id).toNat ∧ (atF l id).toNat < l.length ∧ (l.getD (atF l id).toNat tokE.dflt).id = id := by
  cases hf : l.findIdx? (fun t => t.id == id) with
  | none => simp [atF, hf] at h
  | some i =>
    rw [atF_of hf, Int.toNat_natCast]
    rw [List.findIdx?_eq_some_iff_getElem] at hf
    obtain ⟨h1, h2, _⟩ := hf
    exact ⟨rfl, h1, by simpa [List.getD, h1] using h2⟩
theorem atF_bd (l : List Tok) (id : Int) : -1 ≤ atF l id ∧ atF l id < l.length := by
  cases hf : l.findIdx? (fun t => t.id == id) with
  | none => simp [atF, hf]; omega
  | some i => rw [atF_of hf]; rw [List.findIdx?_eq_some_iff_getElem] at hf; obtain ⟨h1, _⟩ := hf; omega
theorem atF_neg {l : List Tok} {id : Int} (h : atF l id < 0) : l.findIdx? (fun t => t.id == id) = none := by
  unfold atF at *
  cases hf : l.findIdx? (fun t => t.id == id) with
  | none => rfl
  | some i => simp [hf] at h; omega
theorem findIdx_le {l : List Tok} {id : Int} {j : Nat} (hj : j < l.length) (h : (l.getD j tokE.dflt).id = id) : ∃ i, l.findIdx? (fun t => t.id == id) = some i ∧ i ≤ j := by
  cases hf : l.findIdx? (fun t => t.id == id) with
  | none =>
    rw [List.findIdx?_eq_none_iff] at hf
    have := hf l[j] (List.getElem_mem hj)
    simp [List.getD, hj] at h
    simp [h] at this
  | some i =>
    refine ⟨i, rfl, ?_⟩
    rw [List.findIdx?_eq_some_iff_getElem] at hf
    obtain ⟨h1, h2, h3⟩ := hf
    rcases Nat.lt_or_ge j i with q | q
    · have := h3 j q
      simp [List.getD, hj] at h
      simp [h] at this
    · exact q
/-- What the loop of 'path' keeps: from the token 'id' on there are n steps at most; 'out' has been found behind it. -/
structure PathAt (l : List Tok) (id0 : Int) (id : Int) (n : Nat) (out : List Int) : Prop where
  sum : pathN l (l.length + 1) id0 = pathN l n id ++ out
  rank : rk l id ≤ n
  there : out = [] ∨ id = 0 ∨ 0 ≤ atF l id
  len : out.length + n ≤ l.length + 1
theorem rk_le (l : List Tok) (id : Int) : rk l id ≤ l.length := by
  unfold rk
  split
  · omega
  · split
    · rename_i hf; rw [List.findIdx?_eq_some_iff_getElem] at hf; obtain ⟨h, _⟩ := hf; omega
    · omega
theorem PathAt.start (l : List Tok) (id : Int) : PathAt l id id (l.length + 1) [] := ⟨by simp, by have := rk_le l id; omega, .inl rfl, by simp⟩
theorem pathN_zero (l : List Tok) (n : Nat) : pathN l n 0 = [] := by cases n <;> simp [pathN]
theorem PathAt.done {l : List Tok} {id0 : Int} {n : Nat} {out : List Int} (h : PathAt l id0 0 n out) : pathN l (l.length + 1) id0 = out := by rw [h.sum, pathN_zero]; rfl
theorem PathAt.lost {l : List Tok} {id0 id : Int} {n : Nat} {out : List Int} (h : PathAt l id0 id n out) (h0 : id ≠ 0) (hn : atF l id < 0) : pathN l (l.length + 1) id0 = [] := by
  rcases h.there with h1 | h1 | h1
  · rw [h.sum, h1, List.append_nil]
    cases n with
    | zero => rfl
    | succ n => simp [pathN, h0, atF_neg hn]
  · exact absurd h1 h0
  · omega
theorem PathAt.step {l : List Tok} {id0 id : Int} {n : Nat} {out : List Int} (ha : Ahead l) (h : PathAt l id0 id n out) (h0 : id ≠ 0) (hn : 0 ≤ atF l id) :
    1 ≤ n ∧ PathAt l id0 (l.getD (atF l id).toNat tokE.dflt).parent (n - 1) ([(l.getD (atF l id).toNat tokE.dflt).fact] ++ out) := by
  obtain ⟨h1, h2, h3⟩ := atF_nat hn
  have hr := h.rank
  have hrk : rk l id = (atF l id).toNat + 1 := by unfold rk; rw [if_neg h0, h1]
  obtain ⟨m, rfl⟩ : ∃ m, n = m + 1 := ⟨n - 1, by omega⟩
  have hl := h.len
  refine ⟨by omega, ?_, ?_, ?_, ?_⟩
  · rw [h.sum]
    simp [pathN, h0, h1]
  · simp only [Nat.add_sub_cancel]
    rcases ha _ h2 with hp | ⟨j, hj, hp⟩
    · rw [hp]; simp [rk]
    · obtain ⟨i, hi, hij⟩ := findIdx_le (l := l) (j := j) (by omega) hp
      unfold rk
      split
      · omega
      · rw [hi]; show i + 1 ≤ m; omega
  · right
    rcases ha _ h2 with hp | ⟨j, hj, hp⟩
    · exact .inl hp
    · obtain ⟨i, hi, hij⟩ := findIdx_le (l := l) (j := j) (by omega) hp
      right
      rw [atF_of hi]
      omega
  · simp only [List.length_append, List.length_cons, List.length_nil]; omega
end Go.Wk
