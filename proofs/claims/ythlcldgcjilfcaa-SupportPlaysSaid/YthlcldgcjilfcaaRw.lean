/-
  The calculus: from a walk to a row: arguments opened, the post out of 'nothing that lay there has turned'.
-/
import Derived.Test.YthlcldgcjilfcaaLib8
import Derived.WalkKit
import Derived.ProofKit
import Derived.OpenShut
import Derived.Carry
import Derived.Deep.Slices
import Derived.ChangeSame
namespace Go.Wk
open Go Go.ChangeShapes Go.WideShapes Go.ChangeAt Go.RowKit Go.Deep

theorem below_of {W w' : World} {h' M' : PH} (G : Wld (keyOf W) w' h' M') (hl : PH.le (PH.all W) h') : Below W.heap.size W w' := by
  have hle : PH.le (PH.all W) (PH.all w') := hl.trans G.imm
  have hk := G.key
  simp only [keyOf, Key.mk.injEq] at hk
  have hb : ∀ k, k < W.heap.size → w'.heap[k]? = W.heap[k]? := fun k hk => by
    have h1 : W.heap[k]? = some W.heap[k] := Array.getElem?_eq_getElem hk
    rw [h1]; exact hle k _ h1
  refine ⟨hk.1, hk.2.1, hk.2.2, ?_, hb⟩
  rcases Nat.eq_zero_or_pos W.heap.size with h0 | h0
  · omega
  · have h1 := hb (W.heap.size - 1) (by omega)
    rw [Array.getElem?_eq_getElem (show W.heap.size - 1 < W.heap.size by omega)] at h1
    have := (Array.getElem?_eq_some_iff.1 h1).1
    omega
/-- The world at the call: all of it is read-only. -/
theorem wld_start (W : World) : Wld (keyOf W) W (PH.all W) PH.nil := ⟨rfl, PH.le_refl _, fun _ _ e => (by cases e), fun _ _ e => (by cases e)⟩

section
variable {S H : Type} {E : Enc S} {enc : TypeId × Value → H} {P : Program} {w : World} {spare : Nat → Bool} {held : Bool}

/-- The elements of a slice, as its reading says them. -/
theorem open_rs {base : Nat} {t e : TypeId} {fuel : Nat} {cs : List Value} {x : DataW H × List MemPlace} (ht : P.underlying t = some (.slice e)) (ce : P.cellsOf e = E.sz)
    (he : ∀ fuel cs x, DataW.trod enc P w base spare held fuel e cs = some x → ∃ s, cs = E.enc s)
    (h : DataW.trod enc P w base spare held fuel t cs = some x) : ∃ a xs c, cs = [.slice a xs.length c] ∧ RS (PH.all w) E a xs ∧ xs.length ≤ c ∧ c ≤ maxLen := by
  rcases open_slice ht h with ⟨h0, _⟩ | ⟨a, len, cap, m, n, D, Pl, rfl, hb, hl, hm, hmm, _, hx⟩
  · exact ⟨none, [], 0, h0, RS.nil _ _ _, Nat.le_refl _, Nat.zero_le _⟩
  · have hlm : len ≤ m := by rw [hmm]; split <;> omega
    have key : ∀ i, i < len → ∃ s : S, ∀ k v, (E.enc s)[k]? = some v → w.cell? ((a.add (i * E.sz)).add k) = some v := by
      intro i hi
      obtain ⟨cs', h1, h2⟩ := hx i (by omega)
      obtain ⟨s, rfl⟩ := he _ _ _ h2
      rw [ce] at h1
      obtain ⟨_, hlen, hcell⟩ := World.cells?_some h1
      refine ⟨s, fun k v hv => ?_⟩
      have hk : k < E.sz := by
        rcases Nat.lt_or_ge k E.sz with q | q
        · exact q
        · rw [List.getElem?_eq_none (by rw [E.len]; exact q)] at hv; cases hv
      rw [hcell k hk, hv]
    let f : Nat → S := fun i => if hi : i < len then Classical.choose (key i hi) else E.dflt
    have hf : ∀ i, i < len → ∀ k v, (E.enc (f i))[k]? = some v → w.cell? ((a.add (i * E.sz)).add k) = some v := fun i hi => by
      simp only [f, dif_pos hi]; exact Classical.choose_spec (key i hi)
    refine ⟨some a, (List.range len).map f, cap, by simp, ?_, by simpa using hl, hm⟩
    rcases Nat.eq_zero_or_pos len with rfl | hpos
    · exact RS.nil _ _ _
    · -- the block
      have hd0 : ∀ i, i < len → ((List.range len).map f).getD i E.dflt = f i := fun i hi => by simp [List.getD, hi]
      have h00 : ∃ v, (E.enc (f 0))[0]? = some v := ⟨_, List.getElem?_eq_getElem (by rw [E.len]; exact E.pos)⟩
      obtain ⟨v0, hv0⟩ := h00
      have c0 := hf 0 hpos 0 v0 hv0
      obtain ⟨blk, off, spot⟩ := a
      simp only [Nat.zero_mul, Addr.add, if_true] at c0
      have hsp : spot = none := by
        unfold World.cell? at c0
        simp only at c0
        split at c0
        · split at c0
          · cases c0
          · rename_i h1; simpa using h1
        · cases c0
      subst hsp
      have hblk : ∃ cs t fr, PH.all w blk = some (.cells cs t fr) := by
        unfold World.cell? at c0
        simp only at c0
        split at c0
        · rename_i c1 c2 c3 hh; exact ⟨c1, c2, c3, hh⟩
        · cases c0
      obtain ⟨bs, bt, fr, hbl⟩ := hblk
      refine .inr ⟨blk, off, bs, bt, fr, rfl, hbl, fun j v hv => ?_⟩
      have hjl : j < len * E.sz := by
        have := (List.getElem?_eq_some_iff.1 hv).1
        rw [flat_length] at this; simpa using this
      have hEp := E.pos
      have hdm : j = (j / E.sz) * E.sz + j % E.sz := by have := Nat.div_add_mod j E.sz; rw [Nat.mul_comm] at this; omega
      have hi : j / E.sz < len := (Nat.div_lt_iff_lt_mul hEp).2 hjl
      have hk : j % E.sz < E.sz := Nat.mod_lt _ hEp
      rw [hdm, flat_get E _ _ _ (by simpa using hi) hk, hd0 _ hi] at hv
      have := hf _ hi _ _ hv
      rw [add_at, add_at] at this
      unfold World.cell? at this
      simp only [PH.all] at hbl
      simp only [hbl, Option.isSome_none, Bool.false_eq_true, if_false] at this
      rw [hdm, ← Nat.add_assoc]
      exact this

theorem trodAll_below (hl : laidOutB P = true) {W W' : World} (hb : Below W.heap.size W W') : ∀ {ts : List TypeId} {vs : List Value} {ds : List (DataW H)} {p : List MemPlace},
    (∀ t ∈ ts, P.readableRec t = true ∧ t < P.types.size) → DataW.TrodAll enc P W 0 (fun _ => true) true ts vs ds p → (∀ x ∈ p, x.block < W.heap.size) →
    DataW.TrodAll enc P W' 0 (fun b => decide (b < W.heap.size)) true ts vs ds p
  | [], _, _, _, _, h, _ => by
    obtain ⟨rfl, rfl, rfl⟩ := trodAll_nil h
    exact trodAll_mk0
  | t :: r, _, _, _, ht, h, hp => by
    obtain ⟨v, vs1, d, ds1, a, b, rfl, rfl, rfl, h1, h2⟩ := trodAll_cons h
    obtain ⟨g1, g2⟩ := ht t (by simp)
    exact trodAll_cons_mk (Below.trod hl g1 g2 h1 hb fun x hx => hp x (List.mem_append_left _ hx)) (trodAll_below hl hb (fun t h => ht t (List.mem_cons_of_mem _ h)) h2 fun x hx => hp x (List.mem_append_right _ hx))

/-- THE POST: the law is true, and nothing that lay there has turned. -/
theorem post_true (hl : laidOutB P = true) {f : Func} {s : ChangeSpec} {apart : Bool} {W W' : World} {args : Array Value} {ds gs : List (DataW H)} {before : List MemPlace} {bt : TypeId} (hbt : P.underlying bt = some .bool)
    (hrt : f.resultTypes = #[bt]) (hts : ∀ t ∈ f.params.toList, P.readableRec t = true ∧ t < P.types.size) (hW : DataW.Whole enc P f.params.toList s.vars apart W args.toList ds gs before) (hvars : s.vars = [])
    (hs : s.fn H (ds ++ gs) = { results := [.lit (.bool true)], args := ds }) (hb : Below W.heap.size W W') : s.post enc P f apart true false false W args (.bool true) W' := by
  have hlt : ∀ x ∈ before, x.block < W.heap.size := fun x hx => by simpa using hW.lt x hx
  have hW0 := hW
  obtain ⟨p, q, hA, hV, rfl, hz, hn⟩ := hW0
  rw [hvars] at hV
  obtain ⟨rfl, rfl⟩ := trodVars_none hV
  refine ⟨ds, [], p ++ [], [], p, [], hW, ?_, ?_, ?_, hb.frame _, fun h => by cases h⟩
  · rw [hs, hrt]; exact trodAll_cons_mk (shut_bool hbt _) trodAll_mk0
  · rw [hs]; exact trodAll_below hl hb hts hA fun x hx => hlt x (by simpa using hx)
  · rw [hs, hvars]; rfl
end
end Go.Wk
