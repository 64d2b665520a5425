/-
  Plain facts on lists for the library's functions on slices.
-/
import Derived.Test.YthlcldgcjilfcaaLib8
namespace Go.Wk
open Go

variable {S : Type}
def idxF (p : S → Bool) (xs : List S) : Int := match xs.findIdx? p with | some i => (i : Int) | none => -1
theorem idxF_some {p : S → Bool} {xs : List S} {d : S} {k : Nat} (hk : k < xs.length) (hn : ∀ j < k, p (xs.getD j d) = false) (h : p (xs.getD k d) = true) : idxF p xs = (k : Int) := by
  have : xs.findIdx? p = some k := by
    rw [List.findIdx?_eq_some_iff_getElem]
    refine ⟨hk, by simpa [List.getD, hk] using h, fun j hj => ?_⟩
    have := hn j hj
    have hj' : j < xs.length := by omega
    simpa [List.getD, hj'] using this
  simp [idxF, this]
theorem idxF_none {p : S → Bool} {xs : List S} {d : S} (hn : ∀ j < xs.length, p (xs.getD j d) = false) : idxF p xs = -1 := by
  have : xs.findIdx? p = none := by
    rw [List.findIdx?_eq_none_iff]
    intro x hx
    obtain ⟨j, hj, rfl⟩ := List.getElem_of_mem hx
    have := hn j hj
    simpa [List.getD, hj] using this
  simp [idxF, this]
theorem idxF_cases (p : S → Bool) (xs : List S) (d : S) : (idxF p xs = -1 ∧ ∀ x ∈ xs, p x = false) ∨ ∃ k, k < xs.length ∧ idxF p xs = (k : Int) ∧ p (xs.getD k d) = true ∧ ∀ j < k, p (xs.getD j d) = false := by
  cases hf : xs.findIdx? p with
  | none =>
    refine .inl ⟨by simp [idxF, hf], fun x hx => ?_⟩
    rw [List.findIdx?_eq_none_iff] at hf
    exact hf x hx
  | some i =>
    refine .inr ⟨i, ?_⟩
    rw [List.findIdx?_eq_some_iff_getElem] at hf
    obtain ⟨h1, h2, h3⟩ := hf
    refine ⟨h1, ?_, by simpa [List.getD, h1] using h2, fun j hj => ?_⟩
    · have hf' : xs.findIdx? p = some i := by rw [List.findIdx?_eq_some_iff_getElem]; exact ⟨h1, h2, h3⟩
      simp [idxF, hf']
    · have := h3 j hj
      have hj' : j < xs.length := by omega
      simpa [List.getD, hj'] using this

theorem idxF_bd (p : S → Bool) (xs : List S) : -1 ≤ idxF p xs ∧ idxF p xs < xs.length := by
  cases hf : xs.findIdx? p with
  | none => simp [idxF, hf]; omega
  | some i => rw [show idxF p xs = (i : Int) by simp [idxF, hf]]; rw [List.findIdx?_eq_some_iff_getElem] at hf; obtain ⟨h1, _⟩ := hf; omega

/-- What DeleteFunc's loop keeps. -/
structure DelAt (p : S → Bool) (xs : List S) (i j : Nat) (ys : List S) : Prop where
  len : ys.length = xs.length
  lt : i < j
  le : j ≤ xs.length
  tk : ys.take i = (xs.take j).filter fun x => !p x
  dr : ys.drop j = xs.drop j
theorem DelAt.start {p : S → Bool} {xs : List S} {d : S} {k : Nat} (hk : k < xs.length) (hp : p (xs.getD k d) = true) (hn : ∀ j < k, p (xs.getD j d) = false) : DelAt p xs k (k + 1) xs := by
  refine ⟨rfl, by omega, by omega, ?_, rfl⟩
  have e : xs.getD k d = xs[k] := by simp [List.getD, hk]
  rw [List.take_succ_eq_append_getElem hk, List.filter_append, List.filter_cons_of_neg (by rw [← e, hp]; simp), List.filter_nil, List.append_nil]
  refine (List.filter_eq_self.2 fun x hx => ?_).symm
  obtain ⟨j, hj, rfl⟩ := List.getElem_of_mem hx
  simp only [List.length_take] at hj
  have := hn j (by omega)
  simp [List.getD, show j < xs.length by omega] at this
  simp [this]
theorem DelAt.get {p : S → Bool} {xs ys : List S} {i j : Nat} {d : S} (h : DelAt p xs i j ys) (hj : j < xs.length) : ys.getD j d = xs.getD j d := by
  have h1 : (ys.drop j)[0]? = (xs.drop j)[0]? := by rw [h.dr]
  simp only [List.getElem?_drop, Nat.add_zero] at h1
  simp [List.getD, h1]
theorem take_filter_succ {p : S → Bool} {xs : List S} {d : S} {j : Nat} (hj : j < xs.length) : (xs.take (j + 1)).filter p = (xs.take j).filter p ++ (if p (xs.getD j d) then [xs.getD j d] else []) := by
  have e : xs.getD j d = xs[j] := by simp [List.getD, hj]
  rw [List.take_succ_eq_append_getElem hj, List.filter_append, e]
  congr 1
  by_cases h : p xs[j] = true <;> simp [h]
theorem DelAt.keep {p : S → Bool} {xs ys : List S} {i j : Nat} {d : S} (h : DelAt p xs i j ys) (hj : j < xs.length) (hp : p (ys.getD j d) = false) : DelAt p xs (i + 1) (j + 1) (ys.set i (ys.getD j d)) := by
  rw [h.get hj] at hp ⊢
  have hl := h.len; have hlt := h.lt
  refine ⟨by simp [hl], by omega, hj, ?_, ?_⟩
  · rw [take_filter_succ (d := d) hj, if_pos (by rw [hp]; rfl), ← h.tk]
    rw [List.take_succ_eq_append_getElem (by simp; omega)]
    simp [List.take_set_of_le]
  · rw [List.drop_set, if_pos (by omega)]
    have := congrArg (List.drop 1) h.dr
    simpa [List.drop_drop] using this
theorem DelAt.drop {p : S → Bool} {xs ys : List S} {i j : Nat} {d : S} (h : DelAt p xs i j ys) (hj : j < xs.length) (hp : p (ys.getD j d) = true) : DelAt p xs i (j + 1) ys := by
  rw [h.get hj] at hp
  refine ⟨h.len, by have := h.lt; omega, hj, ?_, ?_⟩
  · rw [take_filter_succ (d := d) hj, if_neg (by rw [hp]; simp), List.append_nil, ← h.tk]
  · have := congrArg (List.drop 1) h.dr
    simpa [List.drop_drop] using this
theorem DelAt.done {p : S → Bool} {xs ys : List S} {i j : Nat} (h : DelAt p xs i j ys) (hj : xs.length ≤ j) : ys.take i = xs.filter fun x => !p x := by
  rw [h.tk, List.take_of_length_le hj]
theorem filter_none {p : S → Bool} {xs : List S} (h : ∀ x ∈ xs, p x = false) : (xs.filter fun x => !p x) = xs := List.filter_eq_self.2 fun x hx => by simp [h x hx]

/-- What Reverse's loop keeps: the first i and the last i have changed places. -/
structure RevAt (xs : List S) (i : Nat) (ys : List S) : Prop where
  len : ys.length = xs.length
  get : ∀ k, k < xs.length → ys[k]? = if k < i ∨ xs.length ≤ k + i then xs[xs.length - 1 - k]? else xs[k]?
theorem RevAt.start (xs : List S) : RevAt xs 0 xs := ⟨rfl, fun k hk => by rw [if_neg (by omega)]⟩
theorem RevAt.step {xs ys : List S} {i j : Nat} {d : S} (h : RevAt xs i ys) (hij : i + j + 1 = xs.length) (hlt : i < j) :
    RevAt xs (i + 1) ((ys.set i (ys.getD j d)).set j (ys.getD i d)) := by
  have hl := h.len
  have hi := h.get i (by omega)
  have hj := h.get j (by omega)
  rw [if_neg (by omega)] at hi hj
  refine ⟨by simp [hl], fun k hk => ?_⟩
  have hgi : ys.getD i d = xs.getD i d := by simp [List.getD, hi]
  have hgj : ys.getD j d = xs.getD j d := by simp [List.getD, hj]
  rw [hgi, hgj]
  by_cases hkj : k = j
  · subst hkj
    rw [List.getElem?_set_self (by simp [hl]; omega), if_pos (by omega)]
    have : xs.length - 1 - k = i := by omega
    rw [this]
    simp [List.getD, show i < xs.length by omega]
  · rw [List.getElem?_set_ne (Ne.symm hkj)]
    by_cases hki : k = i
    · subst hki
      rw [List.getElem?_set_self (by omega), if_pos (by omega)]
      have : xs.length - 1 - k = j := by omega
      rw [this]
      simp [List.getD, show j < xs.length by omega]
    · rw [List.getElem?_set_ne (Ne.symm hki), h.get k hk]
      by_cases h1 : k < i ∨ xs.length ≤ k + i
      · rw [if_pos h1, if_pos (by omega)]
      · rw [if_neg h1, if_neg (by omega)]
theorem RevAt.done {xs ys : List S} {i : Nat} (h : RevAt xs i ys) (hi : xs.length ≤ 2 * i + 1) : ys = xs.reverse := by
  refine List.ext_getElem? fun k => ?_
  by_cases hk : k < xs.length
  · rw [h.get k hk, List.getElem?_reverse hk]
    split
    · rfl
    · have : xs.length - 1 - k = k := by omega
      rw [this]
  · rw [List.getElem?_eq_none (by rw [h.len]; omega), List.getElem?_eq_none (by simp; omega)]
end Go.Wk
