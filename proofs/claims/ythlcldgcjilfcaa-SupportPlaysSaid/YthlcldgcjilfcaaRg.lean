/-
  A slice argument is opened, its elements' inner slices with it.
-/
import Derived.Test.YthlcldgcjilfcaaRw
namespace Go.Wk
open Go Go.ChangeShapes Go.WideShapes Go.ChangeAt Go.RowKit Go.Deep
section
variable {S H : Type} {E : Enc S} {enc : TypeId × Value → H} {P : Program} {w : World} {spare : Nat → Bool} {held : Bool}
/-- The elements of a slice, as its reading says them. -/
theorem open_rsG (Gd : S → Prop) {base : Nat} {t e : TypeId} {fuel : Nat} {cs : List Value} {x : DataW H × List MemPlace} (ht : P.underlying t = some (.slice e)) (ce : P.cellsOf e = E.sz)
    (he : ∀ fuel cs x, DataW.trod enc P w base spare held fuel e cs = some x → ∃ s, cs = E.enc s ∧ Gd s)
    (h : DataW.trod enc P w base spare held fuel t cs = some x) : ∃ a xs c, cs = [.slice a xs.length c] ∧ RS (PH.all w) E a xs ∧ (∀ s ∈ xs, Gd s) ∧ xs.length ≤ c ∧ c ≤ maxLen := by
  rcases open_slice ht h with ⟨h0, _⟩ | ⟨a, len, cap, m, n, D, Pl, rfl, hb, hl, hm, hmm, _, hx⟩
  · exact ⟨none, [], 0, h0, RS.nil _ _ _, by simp, Nat.le_refl _, Nat.zero_le _⟩
  · have hlm : len ≤ m := by rw [hmm]; split <;> omega
    have key : ∀ i, i < len → ∃ s : S, Gd s ∧ ∀ k v, (E.enc s)[k]? = some v → w.cell? ((a.add (i * E.sz)).add k) = some v := by
      intro i hi
      obtain ⟨cs', h1, h2⟩ := hx i (by omega)
      obtain ⟨s, rfl, hgs⟩ := he _ _ _ h2
      rw [ce] at h1
      obtain ⟨_, hlen, hcell⟩ := World.cells?_some h1
      refine ⟨s, hgs, fun k v hv => ?_⟩
      have hk : k < E.sz := by
        rcases Nat.lt_or_ge k E.sz with q | q
        · exact q
        · rw [List.getElem?_eq_none (by rw [E.len]; exact q)] at hv; cases hv
      rw [hcell k hk, hv]
    let f : Nat → S := fun i => if hi : i < len then Classical.choose (key i hi) else E.dflt
    have hf : ∀ i, i < len → ∀ k v, (E.enc (f i))[k]? = some v → w.cell? ((a.add (i * E.sz)).add k) = some v := fun i hi => by
      simp only [f, dif_pos hi]; exact (Classical.choose_spec (key i hi)).2
    have hgf : ∀ s ∈ (List.range len).map f, Gd s := fun s hs => by
      obtain ⟨i, hi, rfl⟩ := List.mem_map.1 hs
      have hi' := List.mem_range.1 hi
      simp only [f, dif_pos hi']; exact (Classical.choose_spec (key i hi')).1
    refine ⟨some a, (List.range len).map f, cap, by simp, ?_, hgf, by simpa using hl, hm⟩
    rcases Nat.eq_zero_or_pos len with rfl | hpos
    · exact RS.nil _ _ _
    · -- the block
      have hd0 : ∀ i, i < len → ((List.range len).map f).getD i E.dflt = f i := fun i hi => by simp [List.getD, hi]
      have h00 : ∃ v, (E.enc (f 0))[0]? = some v := ⟨_, List.getElem?_eq_getElem (by rw [E.len]; exact E.pos)⟩
      obtain ⟨v0, hv0⟩ := h00
      have c0 := hf 0 hpos 0 v0 hv0
      obtain ⟨blk, off, spot⟩ := a
      simp only [Nat.zero_mul, Addr.add, if_true] at c0
      have hsp : spot = none := by
        unfold World.cell? at c0
        simp only at c0
        split at c0
        · split at c0
          · cases c0
          · rename_i h1; simpa using h1
        · cases c0
      subst hsp
      have hblk : ∃ cs t fr, PH.all w blk = some (.cells cs t fr) := by
        unfold World.cell? at c0
        simp only at c0
        split at c0
        · rename_i c1 c2 c3 hh; exact ⟨c1, c2, c3, hh⟩
        · cases c0
      obtain ⟨bs, bt, fr, hbl⟩ := hblk
      refine .inr ⟨blk, off, bs, bt, fr, rfl, hbl, fun j v hv => ?_⟩
      have hjl : j < len * E.sz := by
        have := (List.getElem?_eq_some_iff.1 hv).1
        rw [flat_length] at this; simpa using this
      have hEp := E.pos
      have hdm : j = (j / E.sz) * E.sz + j % E.sz := by have := Nat.div_add_mod j E.sz; rw [Nat.mul_comm] at this; omega
      have hi : j / E.sz < len := (Nat.div_lt_iff_lt_mul hEp).2 hjl
      have hk : j % E.sz < E.sz := Nat.mod_lt _ hEp
      rw [hdm, flat_get E _ _ _ (by simpa using hi) hk, hd0 _ hi] at hv
      have := hf _ hi _ _ hv
      rw [add_at, add_at] at this
      unfold World.cell? at this
      simp only [PH.all] at hbl
      simp only [hbl, Option.isSome_none, Bool.false_eq_true, if_false] at this
      rw [hdm, ← Nat.add_assoc]
      exact this

end
end Go.Wk
