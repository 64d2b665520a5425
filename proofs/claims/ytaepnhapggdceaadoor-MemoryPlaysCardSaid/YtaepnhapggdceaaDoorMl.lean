/-
  The row of a memory: what is looked up, what comes, what goes.
-/
import Derived.Test.YtaepnhapggdceaaDoorKj
namespace Go.Wk
open Go

/-- The fact of a text. -/
def lookR (row : List FactD) (t : ByteArray) (xs : List Val) : Option FactD := row.find? fun f => sameS f.t t && rowsV f.vals xs
theorem same_key {f : FactD} {t : ByteArray} {xs : List Val} : (sameS f.t t && rowsV f.vals xs) = true ↔ keyD f = keyF t xs := by
  simp only [Bool.and_eq_true, sameS_iff, rowsV, decide_eq_true_eq]
  exact ⟨fun ⟨h1, h2⟩ => by simp [keyD, h1, h2], fun h => keyF_inj h⟩
abbrev lkB (k : ByteArray) (l : List (ByteArray × Value)) : Option Value := @List.lookup ByteArray Value instBEqOfDecidableEq k l
theorem beqB {a b : ByteArray} : @BEq.beq ByteArray instBEqOfDecidableEq a b = decide (a = b) := rfl
theorem ents_look (row : List FactD) (t : ByteArray) (xs : List Val) : lkB (keyF t xs) (ents row) = (lookR row t xs).map fun f => .int .i64 f.id := by
  induction row with
  | nil => rfl
  | cons f r ih =>
    unfold ents lookR lkB at ih ⊢
    simp only [List.map_cons, List.lookup_cons, List.find?_cons, beqB]
    by_cases h : keyD f = keyF t xs
    · have h1 := same_key.2 h
      rw [h1]; simp [h]
    · have h1 : (sameS f.t t && rowsV f.vals xs) = false := by
        cases hq : (sameS f.t t && rowsV f.vals xs) with
        | false => rfl
        | true => exact absurd (same_key.1 hq) h
      rw [h1]
      have h2 : decide (keyF t xs = keyD f) = false := decide_eq_false fun e : keyF t xs = keyD f => h e.symm
      simp only [h2]
      exact ih
theorem lookR_some {row : List FactD} {t : ByteArray} {xs : List Val} {f : FactD} (h : lookR row t xs = some f) : f ∈ row ∧ f.t = t ∧ f.vals = xs := by
  have h1 := List.find?_some h
  have h2 := List.mem_of_find?_eq_some h
  simp only [Bool.and_eq_true, sameS_iff, rowsV, decide_eq_true_eq] at h1
  exact ⟨h2, h1.1, h1.2⟩
theorem lookR_none {row : List FactD} {t : ByteArray} {xs : List Val} (h : lookR row t xs = none) : ∀ f ∈ row, ¬ (f.t = t ∧ f.vals = xs) := by
  intro f hf ⟨h1, h2⟩
  have := List.find?_eq_none.1 h f hf
  simp [h1, h2, sameS_iff.2 rfl, rowsV] at this
theorem ents_put {row : List FactD} {t : ByteArray} {xs : List Val} (h : lookR row t xs = none) (id : Int) (a : Option Addr) (c : Nat) :
    mput (ents row) (keyF t xs) (.int .i64 id) = ents (row ++ [⟨id, t, a, xs, c⟩]) := by
  have h1 := ents_look row t xs
  rw [h] at h1
  unfold lkB at h1
  unfold mput
  rw [h1]
  simp [ents, keyD]
theorem RowOk.push {row : List FactD} {next : Int} (R : RowOk row next) {t : ByteArray} {xs : List Val} (h : lookR row t xs = none) (hok : FactOk t xs) (a : Option Addr) (c : Nat) (hl : row.length < 1000) (hn : next < 1000000000) :
    RowOk (row ++ [⟨next, t, a, xs, c⟩]) (next + 1) := by
  have hk := lookR_none h
  refine ⟨?_, ?_, ?_, ?_, ?_, ?_⟩
  · refine List.pairwise_append.2 ⟨R.up, by simp, fun f hf g hg => ?_⟩
    rw [List.mem_singleton] at hg; subst hg
    exact (R.lo f hf).2
  · intro f hf
    rcases List.mem_append.1 hf with hf | hf
    · have := R.lo f hf; omega
    · rw [List.mem_singleton] at hf; subst hf; have := R.nx; exact ⟨this.1, by simp only; omega⟩
  · refine List.pairwise_append.2 ⟨R.keys, by simp, fun f hf g hg => ?_⟩
    rw [List.mem_singleton] at hg; subst hg
    intro e
    exact hk f hf (keyF_inj e)
  · intro f hf
    rcases List.mem_append.1 hf with hf | hf
    · exact R.ok f hf
    · rw [List.mem_singleton] at hf; subst hf; exact hok
  · simp; omega
  · have := R.nx; omega
theorem take_drop_sub (row : List FactD) (i : Nat) : (row.take i ++ row.drop (i + 1)).Sublist row := by
  have h1 : row = row.take i ++ row.drop i := (List.take_append_drop i row).symm
  have h2 : (row.drop (i + 1)).Sublist (row.drop i) := by
    rw [show i + 1 = 1 + i by omega, ← List.drop_drop]
    first | exact List.drop_sublist _ _ | (rw [List.drop_drop, Nat.add_comm, ← List.drop_drop]; exact List.drop_sublist _ _)
  have h3 := List.Sublist.append (List.Sublist.refl (row.take i)) h2
  rw [List.take_append_drop] at h3
  exact h3
theorem RowOk.del {row : List FactD} {next : Int} (R : RowOk row next) (i : Nat) : RowOk (row.take i ++ row.drop (i + 1)) next := by
  have s := take_drop_sub row i
  exact ⟨R.up.sublist s, fun f hf => R.lo f (s.subset hf), R.keys.sublist s, fun f hf => R.ok f (s.subset hf), Nat.le_trans s.length_le R.len, R.nx⟩
theorem ents_del {row : List FactD} (hk : row.Pairwise fun f g => keyD f ≠ keyD g) {i : Nat} (hi : i < row.length) : ((ents row).filter fun p => p.1 ≠ keyD (row.getD i factE.dflt)) = ents (row.take i ++ row.drop (i + 1)) := by
  induction row generalizing i with
  | nil => simp at hi
  | cons f r ih =>
    obtain ⟨h1, h2⟩ := List.pairwise_cons.1 hk
    cases i with
    | zero =>
      simp only [ents, List.map_cons, List.getD_cons_zero, List.take_zero, List.nil_append, Nat.zero_add, List.drop_succ_cons, List.drop_zero]
      rw [List.filter_cons_of_neg (by simp)]
      refine List.filter_eq_self.2 fun p hp => ?_
      obtain ⟨g, hg, rfl⟩ := List.mem_map.1 hp
      simpa using fun e => h1 g hg e.symm
    | succ j =>
      have hj : j < r.length := by simpa using hi
      have e : (f :: r).getD (j + 1) factE.dflt = r.getD j factE.dflt := by simp [List.getD]
      rw [e]
      have hne : keyD f ≠ keyD (r.getD j factE.dflt) := h1 _ (getD_mem hj)
      have h3 := ih h2 hj
      simp only [ents, List.map_cons, List.take_succ_cons, List.drop_succ_cons, List.cons_append] at h3 ⊢
      rw [List.filter_cons_of_pos (by simpa using hne), h3]
/-- What a fact's number leaves. -/
theorem del_ids {row : List FactD} {next : Int} (R : RowOk row next) {i : Nat} (hi : i < row.length) : row.take i ++ row.drop (i + 1) = row.filter fun f => f.id ≠ (row.getD i factE.dflt).id := by
  have hu := R.up
  clear R
  induction row generalizing i with
  | nil => simp at hi
  | cons f r ih =>
    obtain ⟨h1, h2⟩ := List.pairwise_cons.1 hu
    cases i with
    | zero =>
      simp only [List.take_zero, List.nil_append, Nat.zero_add, List.drop_succ_cons, List.drop_zero, List.getD_cons_zero]
      rw [List.filter_cons_of_neg (by simp)]
      refine (List.filter_eq_self.2 fun g hg => ?_).symm
      have := h1 g hg
      simp; omega
    | succ j =>
      have hj : j < r.length := by simpa using hi
      have e : (f :: r).getD (j + 1) factE.dflt = r.getD j factE.dflt := by simp [List.getD]
      rw [e]
      have h4 := h1 _ (getD_mem (d := factE.dflt) hj)
      rw [List.filter_cons_of_pos (by simp only [ne_eq, decide_not, Bool.not_eq_true', decide_eq_false_iff_not]; omega), List.take_succ_cons, List.drop_succ_cons, List.cons_append, ih hj h2]
theorem RowOk.nil : RowOk [] 1 := ⟨.nil, by simp, .nil, by simp, by simp, by omega⟩
end Go.Wk
