/-
  What the statements' own loops reckon: plain facts.
-/
import Derived.Test.YtcogbcnnehkddaaCl
namespace Go.Wk
open Go

def factK (row : List Tok) (f : Int) (k : Nat) : List Int := ((row.take k).filter fun t => decide (t.fact = f)).map (·.id)
theorem factK_zero (row : List Tok) (f : Int) : factK row f 0 = [] := by simp [factK]
theorem factK_yes (row : List Tok) (f : Int) {k : Nat} (h : k < row.length) (hf : (row.getD k tokE.dflt).fact = f) : factK row f (k + 1) = factK row f k ++ [(row.getD k tokE.dflt).id] := by
  have e : row.getD k tokE.dflt = row[k] := by simp [List.getD, h]
  rw [e] at hf ⊢
  unfold factK
  rw [List.take_succ_eq_append_getElem h, List.filter_append, List.map_append, List.filter_cons_of_pos (by simpa using hf)]; rfl
theorem factK_no (row : List Tok) (f : Int) {k : Nat} (h : k < row.length) (hf : (row.getD k tokE.dflt).fact ≠ f) : factK row f (k + 1) = factK row f k := by
  have e : row.getD k tokE.dflt = row[k] := by simp [List.getD, h]
  rw [e] at hf
  unfold factK
  rw [List.take_succ_eq_append_getElem h, List.filter_append, List.map_append, List.filter_cons_of_neg (by simpa using hf)]; simp
theorem factK_full (row : List Tok) (f : Int) : factK row f row.length = factsOf row f := by simp [factK, factsOf]
theorem factK_len (row : List Tok) (f : Int) (k : Nat) : (factK row f k).length ≤ k := by
  unfold factK
  rw [List.length_map]
  exact Nat.le_trans (List.length_filter_le _ _) (List.length_take_le _ _)
def kidsK (row : List Tok) (f : Int) (k : Nat) : List Int := ((row.take k).filter fun t => decide (t.parent = f)).map (·.id)
theorem kidsK_yes (row : List Tok) (f : Int) {k : Nat} (h : k < row.length) (hf : (row.getD k tokE.dflt).parent = f) : kidsK row f (k + 1) = kidsK row f k ++ [(row.getD k tokE.dflt).id] := by
  have e : row.getD k tokE.dflt = row[k] := by simp [List.getD, h]
  rw [e] at hf ⊢
  unfold kidsK
  rw [List.take_succ_eq_append_getElem h, List.filter_append, List.map_append, List.filter_cons_of_pos (by simpa using hf)]; rfl
theorem kidsK_no (row : List Tok) (f : Int) {k : Nat} (h : k < row.length) (hf : (row.getD k tokE.dflt).parent ≠ f) : kidsK row f (k + 1) = kidsK row f k := by
  have e : row.getD k tokE.dflt = row[k] := by simp [List.getD, h]
  rw [e] at hf
  unfold kidsK
  rw [List.take_succ_eq_append_getElem h, List.filter_append, List.map_append, List.filter_cons_of_neg (by simpa using hf)]; simp
theorem kidsK_full (row : List Tok) (f : Int) : kidsK row f row.length = kidsOf row f := by simp [kidsK, kidsOf]
theorem kidsK_len (row : List Tok) (f : Int) (k : Nat) : (kidsK row f k).length ≤ k := by
  unfold kidsK
  rw [List.length_map]
  exact Nat.le_trans (List.length_filter_le _ _) (List.length_take_le _ _)
theorem TreeA.wf {M0 M : PH} {p : Nat} {row : List Tok} {last : Int} (A : TreeA M0 M p row last) : RowWf row last := by obtain ⟨_, _, _, R⟩ := A; exact R.wf
theorem dec_self {xs : List Int} : decide (xs = xs) = true := by simp

/-! ### chains -/
def chain (m : Nat) : List Tok := (List.range m).map fun i : Nat => ⟨(i : Int) + 1, (i : Int), 100 + (i : Int)⟩
theorem chain_len (m : Nat) : (chain m).length = m := by simp [chain]
theorem chain_succ (m : Nat) : chain (m + 1) = chain m ++ [⟨(m : Int) + 1, (m : Int), 100 + (m : Int)⟩] := by simp [chain, List.range_succ]
theorem chain_get {m i : Nat} (h : i < m) : (chain m).getD i tokE.dflt = ⟨(i : Int) + 1, (i : Int), 100 + (i : Int)⟩ := by simp [chain, List.getD, h]
theorem mem_chain {m : Nat} {t : Tok} : t ∈ chain m ↔ ∃ i, i < m ∧ t = ⟨(i : Int) + 1, (i : Int), 100 + (i : Int)⟩ := by
  simp only [chain, List.mem_map, List.mem_range]
  constructor
  · rintro ⟨i, h, e⟩; exact ⟨i, h, e.symm⟩
  · rintro ⟨i, h, e⟩; exact ⟨i, h, e.symm⟩
theorem chain_has {m i : Nat} (h : i ≤ m) : (i : Int) = 0 ∨ 0 ≤ atF (chain m) i := by
  rcases Nat.eq_zero_or_pos i with h0 | h0
  · left; omega
  · right
    exact has_iff.2 ⟨_, mem_chain.2 ⟨i - 1, by omega, rfl⟩, by simp only; omega⟩
theorem chain_find {m i : Nat} (h : i < m) : (chain m).findIdx? (fun t => t.id == (i : Int) + 1) = some i := by
  rw [List.findIdx?_eq_some_iff_getElem]
  refine ⟨by rw [chain_len]; exact h, by simp [chain], fun j hj => ?_⟩
  simp [chain]; omega
theorem chain_path (m : Nat) : ∀ (n i : Nat), i < n → i ≤ m → pathN (chain m) n (i : Int) = (List.range i).map fun j : Nat => 100 + (j : Int)
  | 0, _, h, _ => by omega
  | n + 1, 0, _, _ => by simp [pathN]
  | n + 1, i + 1, h, hm => by
    unfold pathN
    have h0 : ¬ (((i + 1 : Nat) : Int) = 0) := by omega
    rw [if_neg h0]
    have hf := chain_find (m := m) (i := i) (by omega)
    have e : (((i + 1 : Nat) : Int)) = (i : Int) + 1 := by omega
    rw [e, hf]
    simp only [chain_get (show i < m by omega)]
    rw [chain_path m n i (by omega) (by omega), List.range_succ, List.map_append]
    rfl
theorem chain_gone {m k : Nat} {last : Int} (wf : RowWf (chain m) last) (hk : k < m) : ∀ i, i < m → (((i : Int) + 1) ∈ gone (chain m) [(k : Int) + 1] ↔ k ≤ i) := by
  intro i
  induction i with
  | zero =>
    intro hi
    have ht : (⟨((0 : Nat) : Int) + 1, ((0 : Nat) : Int), 100 + ((0 : Nat) : Int)⟩ : Tok) ∈ chain m := mem_chain.2 ⟨0, hi, rfl⟩
    have := gone_iff wf [(k : Int) + 1] ht
    simp only at this
    rw [this, List.mem_singleton]
    have hz := gone_zero wf [(k : Int) + 1]
    simp only [List.mem_singleton] at hz
    have e0 : ((0 : Nat) : Int) = 0 := rfl
    rw [e0, hz]
    omega
  | succ i ih =>
    intro hi
    have ht : (⟨((i + 1 : Nat) : Int) + 1, ((i + 1 : Nat) : Int), 100 + ((i + 1 : Nat) : Int)⟩ : Tok) ∈ chain m := mem_chain.2 ⟨i + 1, hi, rfl⟩
    have := gone_iff wf [(k : Int) + 1] ht
    simp only at this
    rw [this, List.mem_singleton]
    have e : ((i + 1 : Nat) : Int) = (i : Int) + 1 := by omega
    rw [e, ih (by omega)]
    omega
theorem chain_fact {m k : Nat} (hk : k < m) : factsOf (chain m) (100 + (k : Int)) = [(k : Int) + 1] := by
  unfold factsOf
  have hn : (((chain m).filter fun t => decide (t.fact = 100 + (k : Int))).map (·.id)).Nodup := by
    refine List.Nodup.sublist (List.filter_sublist.map _) ?_
    unfold chain
    rw [List.map_map]
    refine List.pairwise_map.2 (List.nodup_range.imp fun h e => h ?_)
    simp only [Function.comp] at e
    omega
  have hp := (List.perm_ext_iff_of_nodup hn (List.pairwise_singleton (· ≠ ·) ((k : Int) + 1))).2 fun x => by
    simp only [List.mem_map, List.mem_filter, mem_chain, decide_eq_true_eq, List.mem_singleton]
    constructor
    · rintro ⟨t, ⟨⟨i, hi, rfl⟩, hf⟩, rfl⟩
      simp only at hf ⊢; omega
    · rintro rfl
      exact ⟨_, ⟨⟨k, hk, rfl⟩, rfl⟩, rfl⟩
  exact List.perm_singleton.1 hp
theorem chain_fact_none (k : Nat) : factsOf (chain k) (100 + (k : Int)) = [] := by
  unfold factsOf
  rw [List.filter_eq_nil_iff.2, List.map_nil]
  intro t ht
  obtain ⟨i, hi, rfl⟩ := mem_chain.1 ht
  simp only [decide_eq_true_eq]; omega
theorem chain_cut {m k : Nat} {last : Int} (wf : RowWf (chain m) last) (hk : k < m) : cutF (chain m) [(k : Int) + 1] = chain k := by
  rw [cutF_eq wf]
  have h1 : (chain m).filter (fun t => decide (t.id ∉ gone (chain m) [(k : Int) + 1])) = (chain m).filter fun t => decide (t.parent < (k : Int)) := by
    refine List.filter_congr fun t ht => ?_
    obtain ⟨i, hi, rfl⟩ := mem_chain.1 ht
    refine decide_eq_decide.2 ?_
    simp only
    rw [chain_gone wf hk i hi]
    omega
  rw [h1]
  have h2 : chain m = chain k ++ (List.range' k (m - k)).map fun i : Nat => ⟨(i : Int) + 1, (i : Int), 100 + (i : Int)⟩ := by
    unfold chain
    rw [← List.map_append, List.range_eq_range', List.range_eq_range']
    have := @List.range'_append_1 0 k (m - k)
    rw [Nat.zero_add] at this
    rw [this]
    congr 2
    omega
  rw [h2, List.filter_append, List.filter_eq_self.2, List.filter_eq_nil_iff.2, List.append_nil]
  · intro t ht
    simp only [List.mem_map, List.mem_range'_1] at ht
    obtain ⟨i, hi, rfl⟩ := ht
    simp only [decide_eq_true_eq]; omega
  · intro t ht
    obtain ⟨i, hi, rfl⟩ := mem_chain.1 ht
    simp only [decide_eq_true_eq]; omega
theorem filter_two {α : Type} (q : α → Bool) (l : List α) : (l.filter q).length + (l.filter fun x => !q x).length = l.length := by
  induction l with
  | nil => rfl
  | cons x r ih =>
    by_cases h : q x = true
    · simp [h]; omega
    · simp [h]; omega
theorem cut_ids_len {row : List Tok} {last : Int} (wf : RowWf row last) (g : List Int) : (idsF row g).length + (cutF row g).length = row.length := by
  rw [idsF_eq wf, cutF_eq wf, List.length_map]
  have := filter_two (fun t => decide (t.id ∈ gone row g)) row
  have e : row.filter (fun t => !decide (t.id ∈ gone row g)) = row.filter fun t => decide (t.id ∉ gone row g) := List.filter_congr fun t _ => by simp
  rw [e] at this
  omega
theorem idsF_nil {row : List Tok} {last : Int} (wf : RowWf row last) : idsF row [] = [] := by
  rw [idsF_eq wf, List.filter_eq_nil_iff.2 (fun t ht => by simpa using gone_nil wf ht)]; rfl
end Go.Wk
