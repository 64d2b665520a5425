/-
  What is gone with what: plain facts of rows of tokens.
-/
import Derived.Test.YtcogbcnnehkddaaRl
namespace Go.Wk
open Go

def gone (row : List Tok) (g : List Int) : List Int := (cutK row g row.length).2
/-- x is a token that hangs somewhere beneath id. -/
def Blw (row : List Tok) (id x : Int) : Prop := ∃ t ∈ row, t.id = x ∧ t.parent ∈ gone row [id]

theorem cutK_late (l : List Tok) (g : List Int) : ∀ (m k : Nat), k ≤ m → m ≤ l.length → ∀ x, x ∈ (cutK l g m).2 → x ∈ (cutK l g k).2 ∨ ∃ j, k ≤ j ∧ j < m ∧ (l.getD j tokE.dflt).id = x
  | 0, k, hk, _, x, hx => by obtain rfl : k = 0 := by omega
                             exact .inl hx
  | m + 1, k, hk, hm, x, hx => by
    rcases Nat.eq_or_lt_of_le hk with rfl | hk'
    · exact .inl hx
    · have ih := cutK_late l g m k (by omega) (by omega) x
      by_cases hg : (l.getD m tokE.dflt).id ∈ (cutK l g m).2 ∨ (l.getD m tokE.dflt).parent ∈ (cutK l g m).2
      · rw [(cutK_yes l g (by omega) hg).2] at hx
        rcases List.mem_append.1 hx with h | h
        · exact (ih h).imp id fun ⟨j, h1, h2, h3⟩ => ⟨j, h1, by omega, h3⟩
        · simp only [List.mem_singleton] at h
          exact .inr ⟨m, by omega, by omega, h.symm⟩
      · rw [(cutK_no l g (by omega) hg).2] at hx
        exact (ih hx).imp id fun ⟨j, h1, h2, h3⟩ => ⟨j, h1, by omega, h3⟩
theorem cutK_mono (l : List Tok) (g : List Int) : ∀ (m k : Nat), k ≤ m → m ≤ l.length → ∀ x, x ∈ (cutK l g k).2 → x ∈ (cutK l g m).2
  | 0, k, hk, _, x, hx => by obtain rfl : k = 0 := by omega
                             exact hx
  | m + 1, k, hk, hm, x, hx => by
    rcases Nat.eq_or_lt_of_le hk with rfl | hk'
    · exact hx
    · have ih := cutK_mono l g m k (by omega) (by omega) x hx
      by_cases hg : (l.getD m tokE.dflt).id ∈ (cutK l g m).2 ∨ (l.getD m tokE.dflt).parent ∈ (cutK l g m).2
      · rw [(cutK_yes l g (by omega) hg).2]; exact List.mem_append_left _ ih
      · rw [(cutK_no l g (by omega) hg).2]; exact ih

theorem RowWf.ids {row : List Tok} {last : Int} (wf : RowWf row last) : (row.map (·.id)).Nodup := wf.rise.imp fun h e => by omega
theorem RowWf.lt {row : List Tok} {last : Int} (wf : RowWf row last) {i j : Nat} (hij : i < j) (hj : j < row.length) : (row.getD i tokE.dflt).id < (row.getD j tokE.dflt).id := by
  have := List.pairwise_iff_getElem.1 wf.rise i j (by simp; omega) (by simpa using hj) hij
  simp only [List.getElem_map] at this
  simpa [List.getD, hj, show i < row.length by omega] using this
theorem RowWf.up {row : List Tok} {last : Int} (wf : RowWf row last) {t : Tok} (ht : t ∈ row) : t.parent = 0 ∨ ∃ s ∈ row, s.id = t.parent ∧ s.id < t.id := by
  obtain ⟨i, hi, rfl⟩ := List.getElem_of_mem ht
  rcases wf.ahead i hi with h | ⟨j, hj, h⟩
  · exact .inl (by simpa [List.getD, hi] using h)
  · right
    have hj' : j < row.length := by omega
    have h1 := wf.lt hj hi
    simp only [List.getD, hi, hj', List.getElem?_eq_getElem, Option.getD_some] at h h1
    exact ⟨row[j], List.getElem_mem hj', h, h1⟩
theorem RowWf.of {row : List Tok} {last : Int} (rise : (row.map (·.id)).Pairwise (· < ·)) (bd : ∀ t ∈ row, 1 ≤ t.id ∧ t.id ≤ last)
    (up : ∀ t ∈ row, t.parent = 0 ∨ ∃ s ∈ row, s.id = t.parent ∧ s.id < t.id) : RowWf row last := by
  refine ⟨rise, bd, fun i hi => ?_⟩
  have e : row.getD i tokE.dflt = row[i] := by simp [List.getD, hi]
  rw [e]
  rcases up _ (List.getElem_mem hi) with h | ⟨s, hs, h1, h2⟩
  · exact .inl h
  · obtain ⟨j, hj, rfl⟩ := List.getElem_of_mem hs
    refine .inr ⟨j, ?_, by simpa [List.getD, hj] using h1⟩
    rcases Nat.lt_trichotomy j i with q | q | q
    · exact q
    · subst q; omega
    · have := List.pairwise_iff_getElem.1 rise i j (by simpa using hi) (by simpa using hj) q
      simp only [List.getElem_map] at this
      omega
theorem RowWf.filter {row : List Tok} {last : Int} (wf : RowWf row last) (q : Tok → Bool) (h : ∀ s ∈ row, ∀ t ∈ row, s.id = t.parent → q t = true → q s = true) : RowWf (row.filter q) last := by
  refine RowWf.of (wf.rise.sublist (List.filter_sublist.map _)) (fun t ht => wf.bd t (List.mem_filter.1 ht).1) fun t ht => ?_
  obtain ⟨ht, hq⟩ := List.mem_filter.1 ht
  rcases wf.up ht with h0 | ⟨s, hs, h1, h2⟩
  · exact .inl h0
  · exact .inr ⟨s, List.mem_filter.2 ⟨hs, h s hs t ht h1 hq⟩, h1, h2⟩
/-- What holds of a token if it holds of what it hangs at holds of all. -/
theorem RowWf.ind {row : List Tok} {last : Int} (wf : RowWf row last) {C : Tok → Prop} (h : ∀ t ∈ row, (∀ s ∈ row, s.id = t.parent → C s) → C t) : ∀ t ∈ row, C t := by
  have key : ∀ (m : Nat) t, t ∈ row → t.id.toNat = m → C t := by
    intro m
    induction m using Nat.strongRecOn with
    | _ m ih =>
      intro t ht hm
      refine h t ht fun s hs e => ?_
      have b1 := wf.bd s hs
      rcases wf.up ht with h0 | ⟨s', hs', h1, h2⟩
      · omega
      · have : s = s' := wf.uniq hs hs' (by omega)
        subst this
        exact ih s.id.toNat (by have := wf.bd t ht; omega) s hs rfl
  exact fun t ht => key _ t ht rfl

section
variable {row : List Tok} {last : Int} (wf : RowWf row last)
include wf
theorem gone_at (g : List Int) {k : Nat} (hk : k < row.length) :
    ((row.getD k tokE.dflt).id ∈ gone row g ↔ (row.getD k tokE.dflt).id ∈ (cutK row g k).2 ∨ (row.getD k tokE.dflt).parent ∈ (cutK row g k).2) ∧
    ((row.getD k tokE.dflt).id ∈ (cutK row g k).2 ↔ (row.getD k tokE.dflt).id ∈ g) ∧
    ((row.getD k tokE.dflt).parent ∈ (cutK row g k).2 ↔ (row.getD k tokE.dflt).parent ∈ gone row g) := by
  have hid : ∀ j, k < j → j < row.length → (row.getD j tokE.dflt).id ≠ (row.getD k tokE.dflt).id := fun j h1 h2 => by have := wf.lt h1 h2; omega
  refine ⟨⟨fun h => ?_, fun h => ?_⟩, ⟨fun h => ?_, fun h => cutK_mono row g k 0 (by omega) (by omega) _ h⟩, ⟨fun h => cutK_mono row g _ k (by omega) (Nat.le_refl _) _ h, fun h => ?_⟩⟩
  · rcases cutK_late row g _ (k + 1) (by omega) (Nat.le_refl _) _ h with h | ⟨j, h1, h2, h3⟩
    · by_cases hg : (row.getD k tokE.dflt).id ∈ (cutK row g k).2 ∨ (row.getD k tokE.dflt).parent ∈ (cutK row g k).2
      · exact hg
      · rw [(cutK_no row g hk hg).2] at h; exact .inl h
    · exact absurd h3 (hid j (by omega) h2)
  · refine cutK_mono row g _ (k + 1) (by omega) (Nat.le_refl _) _ ?_
    rw [(cutK_yes row g hk h).2]; simp
  · rcases cutK_late row g k 0 (by omega) (by omega) _ h with h | ⟨j, h1, h2, h3⟩
    · exact h
    · have := wf.lt h2 hk; omega
  · rcases cutK_late row g _ k (by omega) (Nat.le_refl _) _ h with h | ⟨j, h1, h2, h3⟩
    · exact h
    · have hm : row.getD k tokE.dflt ∈ row := getD_mem hk
      have hj : row.getD j tokE.dflt ∈ row := getD_mem h2
      have b := wf.bd _ hj
      rcases wf.up hm with h0 | ⟨s, hs, e1, e2⟩
      · omega
      · have : j = k ∨ k < j := by omega
        rcases this with rfl | h4
        · omega
        · have := wf.lt h4 h2; omega
theorem gone_iff (g : List Int) {t : Tok} (ht : t ∈ row) : t.id ∈ gone row g ↔ t.id ∈ g ∨ t.parent ∈ gone row g := by
  obtain ⟨k, hk, rfl⟩ := List.getElem_of_mem ht
  have e : row[k] = row.getD k tokE.dflt := by simp [List.getD, hk]
  rw [e]
  obtain ⟨h1, h2, h3⟩ := gone_at wf g hk
  rw [h1, h2, h3]
omit wf in
theorem gone_sub {g : List Int} {x : Int} (h : x ∈ gone row g) : x ∈ g ∨ ∃ t ∈ row, t.id = x := by
  rcases cutK_late row g _ 0 (by omega) (Nat.le_refl _) _ h with h | ⟨j, h1, h2, h3⟩
  · exact .inl h
  · exact .inr ⟨_, getD_mem h2, h3⟩
omit wf in
theorem gone_self {g : List Int} {x : Int} (h : x ∈ g) : x ∈ gone row g := cutK_mono row g _ 0 (by omega) (Nat.le_refl _) _ h
theorem cutF_eq (g : List Int) : cutF row g = row.filter fun t => decide (t.id ∉ gone row g) := by
  have key : ∀ k, k ≤ row.length → (cutK row g k).1 = (row.take k).filter fun t => decide (t.id ∉ gone row g) := by
    intro k
    induction k with
    | zero => intro _; simp [cutK_zero]
    | succ k ih =>
      intro hk
      have e : row[k] = row.getD k tokE.dflt := by simp [List.getD, show k < row.length by omega]
      rw [List.take_succ_eq_append_getElem (by omega), List.filter_append, ← ih (by omega), e]
      obtain ⟨h1, _, _⟩ := gone_at wf g (k := k) (by omega)
      by_cases hg : (row.getD k tokE.dflt).id ∈ (cutK row g k).2 ∨ (row.getD k tokE.dflt).parent ∈ (cutK row g k).2
      · rw [(cutK_yes row g (by omega) hg).1, List.filter_cons_of_neg (by simpa using h1.2 hg)]; simp
      · rw [(cutK_no row g (by omega) hg).1, List.filter_cons_of_pos (by simpa using fun h => hg (h1.1 h))]; simp
  have := key row.length (Nat.le_refl _)
  rw [List.take_length] at this
  exact this
theorem idsF_eq (g : List Int) : idsF row g = (row.filter fun t => decide (t.id ∈ gone row g)).map (·.id) := by
  unfold idsF idsK
  rw [List.take_length]
  congr 1
  refine List.filter_congr fun t ht => ?_
  rw [cutF_eq wf]
  refine decide_eq_decide.2 ⟨fun h => ?_, fun h => ?_⟩
  · by_cases hg : t.id ∈ gone row g
    · exact hg
    · have hm : t ∈ row.filter (fun t => decide (t.id ∉ gone row g)) := List.mem_filter.2 ⟨ht, by simpa using hg⟩
      have := has_iff.2 ⟨t, hm, rfl⟩
      omega
  · rcases Int.lt_or_le (atF (row.filter fun t => decide (t.id ∉ gone row g)) t.id) 0 with q | q
    · exact q
    · obtain ⟨s, hs, e⟩ := has_iff.1 q
      have := (List.mem_filter.1 hs).2
      rw [e] at this
      simp [h] at this
theorem cutF_wf (g : List Int) : RowWf (cutF row g) last := by
  rw [cutF_eq wf]
  refine wf.filter _ fun s hs t ht e h => ?_
  simp only [decide_eq_true_eq] at h ⊢
  exact fun h' => h ((gone_iff wf g ht).2 (.inr (e ▸ h')))

theorem gone_one {id x : Int} : x ∈ gone row [id] ↔ x = id ∨ Blw row id x := by
  constructor
  · intro h
    rcases gone_sub h with h1 | ⟨t, ht, rfl⟩
    · exact .inl (by simpa using h1)
    · rcases (gone_iff wf [id] ht).1 h with h1 | h1
      · exact .inl (by simpa using h1)
      · exact .inr ⟨t, ht, rfl, h1⟩
  · rintro (rfl | ⟨t, ht, rfl, h⟩)
    · exact gone_self (by simp)
    · exact (gone_iff wf [id] ht).2 (.inr h)
theorem Blw.iff {id : Int} {t : Tok} (ht : t ∈ row) : Blw row id t.id ↔ t.parent = id ∨ Blw row id t.parent := by
  rw [← gone_one wf]
  constructor
  · rintro ⟨s, hs, e, h⟩
    have := wf.uniq hs ht e
    subst this
    exact h
  · exact fun h => ⟨t, ht, rfl, h⟩
theorem Blw.lt {a x : Int} (h : Blw row a x) : a < x := by
  obtain ⟨t, ht, rfl, _⟩ := id h
  revert h
  refine wf.ind (C := fun t => Blw row a t.id → a < t.id) (fun t ht ih h => ?_) t ht
  have b := wf.bd t ht
  rcases (Blw.iff wf ht).1 h with h1 | h1
  · rcases wf.up ht with h0 | ⟨s, hs, e1, e2⟩ <;> omega
  · rcases wf.up ht with h0 | ⟨s, hs, e1, e2⟩
    · obtain ⟨s, hs, e, _⟩ := h1
      have := wf.bd s hs; omega
    · rw [← e1] at h1
      have := ih s hs e1 h1; omega
omit wf in
theorem mem_kidsOf {id k : Int} : k ∈ kidsOf row id ↔ ∃ t ∈ row, t.parent = id ∧ t.id = k := by
  unfold kidsOf
  simp only [List.mem_map, List.mem_filter, decide_eq_true_eq]
  constructor
  · rintro ⟨t, ⟨h1, h2⟩, h3⟩; exact ⟨t, h1, h2, h3⟩
  · rintro ⟨t, h1, h2, h3⟩; exact ⟨t, ⟨h1, h2⟩, h3⟩
theorem Blw.kid {id k : Int} (h : k ∈ kidsOf row id) : Blw row id k := by
  obtain ⟨t, ht, e, rfl⟩ := mem_kidsOf.1 h
  exact (Blw.iff wf ht).2 (.inl e)
theorem Blw.trans {a b x : Int} (h : Blw row a b) (h' : Blw row b x) : Blw row a x := by
  obtain ⟨t, ht, rfl, _⟩ := id h'
  revert h'
  refine wf.ind (C := fun t => Blw row b t.id → Blw row a t.id) (fun t ht ih h' => ?_) t ht
  rcases (Blw.iff wf ht).1 h' with h1 | h1
  · exact (Blw.iff wf ht).2 (.inr (h1 ▸ h))
  · obtain ⟨s, hs, e, _⟩ := id h1
    exact (Blw.iff wf ht).2 (.inr (e ▸ ih s hs e (e ▸ h1)))
theorem Blw.kids {a x : Int} : Blw row a x ↔ ∃ k ∈ kidsOf row a, x = k ∨ Blw row k x := by
  constructor
  · intro h
    obtain ⟨t, ht, rfl, _⟩ := id h
    revert h
    refine wf.ind (C := fun t => Blw row a t.id → ∃ k ∈ kidsOf row a, t.id = k ∨ Blw row k t.id) (fun t ht ih h => ?_) t ht
    rcases (Blw.iff wf ht).1 h with h1 | h1
    · exact ⟨t.id, mem_kidsOf.2 ⟨t, ht, h1, rfl⟩, .inl rfl⟩
    · obtain ⟨s, hs, e, _⟩ := id h1
      obtain ⟨k, hk, h2⟩ := ih s hs e (e ▸ h1)
      refine ⟨k, hk, .inr ((Blw.iff wf ht).2 ?_)⟩
      rw [← e]
      exact h2
  · rintro ⟨k, hk, rfl | h⟩
    · exact Blw.kid wf hk
    · exact (Blw.kid wf hk).trans wf h
theorem Blw.not_kid {a k k' : Int} (h : k ∈ kidsOf row a) (h' : k' ∈ kidsOf row a) : ¬ Blw row k' k := by
  intro hb
  obtain ⟨t, ht, e, rfl⟩ := mem_kidsOf.1 h
  have h1 := (Blw.kid wf h').lt wf
  rcases (Blw.iff wf ht).1 hb with h2 | h2
  · omega
  · have := h2.lt wf; omega
/-- What hangs beneath two tokens of the same place is none. -/
theorem Blw.one {a k k' x : Int} (h : k ∈ kidsOf row a) (h' : k' ∈ kidsOf row a) (hb : x = k ∨ Blw row k x) (hb' : x = k' ∨ Blw row k' x) : k = k' := by
  rcases hb with rfl | hb
  · rcases hb' with rfl | hb'
    · rfl
    · exact absurd hb' (Blw.not_kid wf h h')
  · rcases hb' with rfl | hb'
    · exact absurd hb (Blw.not_kid wf h' h)
    · obtain ⟨t, ht, rfl, _⟩ := id hb
      revert hb hb'
      refine wf.ind (C := fun t => Blw row k t.id → Blw row k' t.id → k = k') (fun t ht ih hb hb' => ?_) t ht
      rcases (Blw.iff wf ht).1 hb with h1 | h1
      · rcases (Blw.iff wf ht).1 hb' with h2 | h2
        · omega
        · rw [h1] at h2; exact absurd h2 (Blw.not_kid wf h h')
      · rcases (Blw.iff wf ht).1 hb' with h2 | h2
        · rw [h2] at h1; exact absurd h1 (Blw.not_kid wf h' h)
        · obtain ⟨s, hs, e, _⟩ := id h1
          exact ih s hs e (e ▸ h1) (e ▸ h2)
end

/-! ### The loop of 'under' -/
def clr (id : Int) (ns : List Nd) : List Nd := ns.map fun n => if n.id = id then { n with kids := [], ka := none, kc := 0 } else n
def keep (ns : List Nd) (out : List Int) : List Nd := ns.filter fun n => decide (n.id ∉ out)
theorem keep_nil (ns : List Nd) : keep ns [] = ns := by simp [keep]
theorem keep_step (ns : List Nd) (k : Int) (out r : List Int) : (clr k (keep (keep ns out) r)).filter (fun n => decide (n.id ≠ k)) = keep ns (out ++ [k] ++ r) := by
  unfold keep clr
  rw [List.filter_filter, List.filter_map]
  have hf : ((fun n : Nd => decide (n.id ≠ k)) ∘ fun n => if n.id = k then ({ n with kids := [], ka := none, kc := 0 } : Nd) else n) = fun n => decide (n.id ≠ k) := by
    funext n
    simp only [Function.comp]
    split <;> simp_all
  rw [hf, List.filter_filter]
  have hm : ∀ l : List Nd, (∀ n ∈ l, n.id ≠ k) → l.map (fun n => if n.id = k then ({ n with kids := [], ka := none, kc := 0 } : Nd) else n) = l := by
    intro l hl
    conv => rhs; rw [← List.map_id l]
    exact List.map_congr_left fun n hn => by simp [hl n hn]
  rw [hm _ (fun n hn => by
    have := (List.mem_filter.1 hn).2
    simp only [Bool.and_eq_true, decide_eq_true_eq] at this
    exact this.1)]
  refine List.filter_congr fun n _ => ?_
  simp only [List.mem_append, List.mem_singleton]
  by_cases h1 : n.id ∈ out <;> by_cases h2 : n.id = k <;> by_cases h3 : n.id ∈ r <;> simp_all

structure UnderUp (row : List Tok) (a : Int) (j : Nat) (out : List Int) : Prop where
  nd : out.Nodup
  mem : ∀ x, x ∈ out ↔ ∃ i, i < j ∧ (x = (kidsOf row a).getD i intE.dflt ∨ Blw row ((kidsOf row a).getD i intE.dflt) x)
theorem UnderUp.start (row : List Tok) (a : Int) : UnderUp row a 0 [] := ⟨List.nodup_nil, fun x => by simp⟩
section
variable {row : List Tok} {last : Int} (wf : RowWf row last)
include wf
theorem RowWf.kids_nodup (a : Int) : (kidsOf row a).Nodup := wf.ids.sublist (List.filter_sublist.map _)
omit wf in
theorem ids_len {row : List Tok} {out : List Int} (hn : out.Nodup) (hs : ∀ x ∈ out, ∃ t ∈ row, t.id = x) : out.length ≤ row.length := by
  have := hn.length_le_of_subset (l₂ := row.map (·.id)) fun x hx => by
    obtain ⟨t, ht, rfl⟩ := hs x hx; exact List.mem_map.2 ⟨t, ht, rfl⟩
  simpa using this
variable {a : Int} {j : Nat} {out : List Int}
theorem UnderUp.below (u : UnderUp row a j out) (hj : j ≤ (kidsOf row a).length) {x : Int} (hx : x ∈ out) : Blw row a x := by
  obtain ⟨i, hi, h⟩ := (u.mem x).1 hx
  exact (Blw.kids wf).2 ⟨_, getD_mem (by omega), h⟩
theorem UnderUp.self (u : UnderUp row a j out) (hj : j ≤ (kidsOf row a).length) : a ∉ out := fun h => by have := (u.below wf hj h).lt wf; omega
theorem UnderUp.len (u : UnderUp row a j out) (hj : j ≤ (kidsOf row a).length) : out.length ≤ row.length :=
  ids_len u.nd fun x hx => by obtain ⟨t, ht, e, _⟩ := u.below wf hj hx; exact ⟨t, ht, e⟩
theorem UnderUp.not (u : UnderUp row a j out) (hj : j < (kidsOf row a).length) {x : Int} (hx : x = (kidsOf row a).getD j intE.dflt ∨ Blw row ((kidsOf row a).getD j intE.dflt) x) : x ∉ out := by
  intro h
  obtain ⟨i, hi, h'⟩ := (u.mem x).1 h
  have e := Blw.one wf (getD_mem (d := intE.dflt) (show i < (kidsOf row a).length by omega)) (getD_mem (d := intE.dflt) hj) h' hx
  have hnd := wf.kids_nodup a
  have hi' : i < (kidsOf row a).length := by omega
  simp only [List.getD, hi', hj, List.getElem?_eq_getElem, Option.getD_some] at e
  have := List.pairwise_iff_getElem.1 hnd i j hi' hj hi
  exact this e
theorem UnderUp.pre (u : UnderUp row a j out) (hj : j < (kidsOf row a).length) {ns : List Nd} (hex : ∀ x, (x = a ∨ Blw row a x) → ∃ n ∈ ns, n.id = x ∧ n.kids = kidsOf row x) :
    ∀ x, (x = (kidsOf row a).getD j intE.dflt ∨ Blw row ((kidsOf row a).getD j intE.dflt) x) → ∃ n ∈ keep ns out, n.id = x ∧ n.kids = kidsOf row x := by
  intro x hx
  obtain ⟨n, hn, rfl, hk⟩ := hex x (.inr ((Blw.kids wf).2 ⟨_, getD_mem hj, hx⟩))
  exact ⟨n, List.mem_filter.2 ⟨hn, by simpa using u.not wf hj hx⟩, rfl, hk⟩
theorem UnderUp.step (u : UnderUp row a j out) (hj : j < (kidsOf row a).length) {r : List Int} (hr : r.Nodup) (hm : ∀ x, x ∈ r ↔ Blw row ((kidsOf row a).getD j intE.dflt) x) :
    UnderUp row a (j + 1) ((out ++ [(kidsOf row a).getD j intE.dflt]) ++ r) := by
  refine ⟨?_, fun x => ?_⟩
  · rw [List.append_assoc, List.nodup_append]
    refine ⟨u.nd, ?_, fun x hx y hy e => ?_⟩
    · rw [List.singleton_append, List.nodup_cons]
      exact ⟨fun h => by have := ((hm _).1 h).lt wf; omega, hr⟩
    · subst e
      refine u.not wf hj ?_ hx
      simp only [List.singleton_append, List.mem_cons] at hy
      exact hy.imp id (hm x).1
  · simp only [List.mem_append, List.mem_singleton, u.mem x, hm x]
    constructor
    · rintro ((⟨i, hi, h⟩ | h) | h)
      · exact ⟨i, by omega, h⟩
      · exact ⟨j, by omega, .inl h⟩
      · exact ⟨j, by omega, .inr h⟩
    · rintro ⟨i, hi, h⟩
      rcases Nat.lt_or_ge i j with q | q
      · exact .inl (.inl ⟨i, q, h⟩)
      · obtain rfl : i = j := by omega
        rcases h with h | h
        · exact .inl (.inr h)
        · exact .inr h
theorem UnderUp.done (u : UnderUp row a j out) (hj : j = (kidsOf row a).length) (x : Int) : x ∈ out ↔ Blw row a x := by
  subst hj
  rw [u.mem x, Blw.kids wf]
  constructor
  · rintro ⟨i, hi, h⟩; exact ⟨_, getD_mem hi, h⟩
  · rintro ⟨k, hk, h⟩
    obtain ⟨i, hi, rfl⟩ := List.getElem_of_mem hk
    exact ⟨i, hi, by simpa [List.getD, hi] using h⟩
theorem UnderUp.kid (hj : j < (kidsOf row a).length) : a < (kidsOf row a).getD j intE.dflt ∧ (kidsOf row a).getD j intE.dflt ≤ last := by
  have hm : (kidsOf row a).getD j intE.dflt ∈ kidsOf row a := getD_mem hj
  refine ⟨(Blw.kid wf hm).lt wf, ?_⟩
  obtain ⟨t, ht, _, e⟩ := mem_kidsOf.1 hm
  rw [← e]; exact (wf.bd t ht).2
omit wf in
theorem Blw.len {r : List Int} (hr : r.Nodup) {k : Int} (hm : ∀ x, x ∈ r ↔ Blw row k x) : r.length ≤ row.length :=
  ids_len hr fun x hx => by obtain ⟨t, ht, e, _⟩ := (hm x).1 hx; exact ⟨t, ht, e⟩
end

section
variable {M0 M M1 M2 : PH} {p bm : Nat} {ns : List Nd} {last : Int} {S : Type} {E : Enc S} {t cap : Nat} {a : Option Addr} {xs : List S}
theorem TreeM.lift (T : TreeM M0 M1 p bm ns last) (o : Own t E M1 M2 a cap xs) : ∃ N, Own t E M0 N a cap xs ∧ TreeM N M2 p bm ns last := (Ly.tree _ _ _ _).swap (Ly.own t a cap xs) T o
theorem TreeM.sink (o : Own t E M0 M1 a cap xs) (T : TreeM M1 M2 p bm ns last) : ∃ N, TreeM M0 N p bm ns last ∧ Own t E N M2 a cap xs := (Ly.own t a cap xs).swap (Ly.tree _ _ _ _) o T
theorem TreeM.clear (T : TreeM M0 M p bm ns last) {n : Nd} (hn : n ∈ ns) : ∃ M', PH.le M' (M.set n.b (nodeObj { n with kids := [], ka := none, kc := 0 })) ∧ TreeM M0 M' p bm (clr n.id ns) last := by
  have hid := T.ids
  obtain ⟨l, r, rfl⟩ := List.append_of_mem hn
  obtain ⟨h1, T2⟩ := T.upd (Own.nil 3 intE (M.without (gf n)))
  have hwl : PH.le (M.without (gf n)) M := fun b o e => by
    simp only [PH.without] at e
    split at e
    · cases e
    · exact e
  refine ⟨_, PH.le_set_mono hwl _ _, ?_⟩
  · have hp : (l ++ n :: r).Perm (n :: (l ++ r)) := List.perm_middle
    have hnd := ((hp.map (·.id)).nodup_iff).1 hid
    simp only [List.map_cons, List.nodup_cons] at hnd
    have hne : ∀ m ∈ l ++ r, m.id ≠ n.id := fun m hm e => hnd.1 (by rw [← e]; exact List.mem_map.2 ⟨m, hm, rfl⟩)
    have hm : ∀ l' : List Nd, (∀ m ∈ l', m.id ≠ n.id) → l'.map (fun m => if m.id = n.id then ({ m with kids := [], ka := none, kc := 0 } : Nd) else m) = l' := by
      intro l' hl
      conv => rhs; rw [← List.map_id l']
      exact List.map_congr_left fun m hm => by simp [hl m hm]
    have : clr n.id (l ++ n :: r) = l ++ { n with kids := [], ka := none, kc := 0 } :: r := by
      unfold clr
      rw [List.map_append, List.map_cons, hm l fun m h => hne m (by simp [h]), hm r fun m h => hne m (by simp [h]), if_pos rfl]
    rw [this]
    exact T2
end
end Go.Wk
