/-
  The calculus: slices.Sort and slices.Sorted(maps.Keys) of numbers, by the library's contracts.
-/
import Derived.Test.YthlcldgcjilfcaaLib12
import Derived.Shelf.SortM.Plain
import Derived.Shelf.SortM.SortNone
import Derived.Shelf.SlIterI.Nil
import Derived.Maps.Own
namespace Go.Wk
open Go Go.Sort

theorem all_grow (w : World) (os : Array Obj) : PH.le (PH.all w) (PH.all (grow w os)) := fun b o e => by
  have hlt := all_lt e
  simp only [PH.all, grow] at e ⊢
  rw [Array.getElem?_append_left hlt]; exact e
theorem all_putRow {α : Type} [Inhabited α] (enc : α → Value) (w : World) {b : Nat} {cs : Array Value} {t : TypeId} {fr : Nat × Nat} (d : Array α) (hb : PH.all w b = some (.cells cs t fr)) :
    PH.all (putRow enc w b 0 d) = (PH.all w).set b (.cells (putCells enc 0 d cs) t fr) := by
  funext x
  simp only [PH.all, PH.set, putRow, mapBlock, Array.getElem?_modify] at hb ⊢
  by_cases hx : b = x
  · subst hx; simp [hb, onCells]
  · rw [if_neg hx, if_neg (Ne.symm hx)]

section
variable {S : Type} [Inhabited S] {E : Enc S} {f : S → Value} {K : Key} {w : World} {h M M0 : PH} {t cap : Nat} {g : Nat} {cur : Array Value} {xs : List S}
omit [Inhabited S] in
theorem flat_one_get (hf : ∀ s, E.enc s = [f s]) (xs : List S) : flat E xs = xs.map f := by
  unfold flat
  induction xs with
  | nil => rfl
  | cons x r ih => simp [hf, ih]
theorem holds_of (hf : ∀ s, E.enc s = [f s]) (hb : PH.all w g = some (.cells cur t (0, 0))) (ht : cur.toList.take xs.length = flat E xs) : Holds f w g 0 xs.toArray := by
  intro j hj
  have hj' : j < xs.length := by simpa using hj
  refine ⟨cell_of (PH.le_refl _) hb ?_, frozen_of (PH.le_refl _) hb⟩
  rw [flat_one_get hf] at ht
  have := congrArg (fun l => l[j]?) ht
  simp only [List.getElem?_take, List.getElem?_map, if_pos hj'] at this
  rw [Nat.zero_add, ← Array.getElem?_toList, this, getElem!_pos xs.toArray j hj]
  simp [hj']
end

variable {P : Program} {ρ : Shelf.Ren} {K : Key} {w : World} {h M M0 : PH}
def sortInts (xs : List Int) : List Int := xs.mergeSort fun x y => decide (x ≤ y)
theorem sortInts_len (xs : List Int) : (sortInts xs).length = xs.length := by simp [sortInts]
theorem insert_perm {H : Type} (x : Lit × DataW H) : ∀ l : List (Lit × DataW H), (DataW.insert x l).Perm (x :: l)
  | [] => .refl _
  | y :: r => by
    simp only [DataW.insert]
    split
    · exact .refl _
    · exact ((insert_perm x r).cons y).trans (.swap _ _ _)
theorem foldr_insert_perm {H : Type} : ∀ l : List (Lit × DataW H), (l.foldr DataW.insert []).Perm l
  | [] => .refl _
  | x :: r => (insert_perm x _).trans ((foldr_insert_perm r).cons x)

section
variable {κ : Type} {es : Array MapEntry} {clk : Nat} {l : List (Int × Value)}
def nilR : Value → Option (DataW Unit × List MemPlace) := fun _ => some (.nil, [])
theorem MapIs.owns (hm : MapIs (.int .i64) intK es clk l) {b : Nat} {k : TypeId} (hk : P.underlying k = some (.int .i64)) (hb : PH.all w b = some (.map es clk)) (hl : l.length ≤ maxLen)
    (hw : ∀ q ∈ l, -9223372036854775808 ≤ q.1 ∧ q.1 ≤ 9223372036854775807) : ∃ D : DataW Unit, w.ownsMap P k nilR b l.length D ∧ (Go.intKeys D).Perm (l.map (·.1)) ∧ Maps.size D = l.length := by
  have hkey : ∀ x ∈ es.toList, ∃ q ∈ l, x.key = intK q.1 ∧ Go.keyOf P k x.key = some (.int .i64 q.1) := by
    intro x hx
    have : x.key ∈ es.toList.map (·.key) := List.mem_map.2 ⟨x, hx, rfl⟩
    rw [hm.keys] at this
    obtain ⟨q, hq, e⟩ := List.mem_map.1 this
    refine ⟨q, hq, e.symm, ?_⟩
    rw [← e]
    have := hw q hq
    exact Go.Maps.keyOf_int_mk hk (by simp only [Lit.wf, Bool.and_eq_true, decide_eq_true_eq]; exact ⟨Int.le_trans (by decide) this.1, Int.le_trans this.2 (by decide)⟩)
  have hsz := hm.size
  refine ⟨_, ⟨es, clk, hb, ⟨by rw [hsz]; exact hl, hm.stamped, fun x hx => ?_⟩, by rw [hsz]; exact Nat.le_refl _, rfl⟩, ?_, ?_⟩
  · obtain ⟨q, _, _, e⟩ := hkey x hx
    exact ⟨_, by simp only [WideElems.rd, e, nilR, Option.bind_some, Option.map_some]; rfl⟩
  · simp only [Go.intKeys]
    refine ((foldr_insert_perm _).map _).trans ?_
    rw [List.map_map]
    have : es.toList.map ((fun p : Lit × DataW Unit => Go.intOf p.1) ∘ WideElems.rg P k nilR) = l.map (·.1) := by
      have h1 : es.toList.map ((fun p : Lit × DataW Unit => Go.intOf p.1) ∘ WideElems.rg P k nilR) = es.toList.map (fun x => match x.key with | .int _ a => a | _ => 0) := by
        refine List.map_congr_left fun x hx => ?_
        obtain ⟨q, _, e1, e⟩ := hkey x hx
        simp only [Function.comp, WideElems.rg, WideElems.rd, e, nilR, Option.bind_some, Option.map_some, Option.getD_some, Go.intOf]
        rw [e1]; rfl
      have h2 := congrArg (List.map fun v : Value => match v with | .int _ a => a | _ => 0) hm.keys
      rw [List.map_map, List.map_map] at h2
      rw [h1]
      exact h2
    rw [this]
  · simp only [Maps.size]
    rw [(foldr_insert_perm _).length_eq, List.length_map, Array.length_toList, hsz]

/-- slices.Sorted(maps.Keys(m)): behind maps.Keys. -/
theorem sorted_keys {ρ' : Shelf.Ren} (L7 : Go.Proofs.SlLaysZI.n7 P ρ) (L6 : Go.Proofs.SlLaysZI.n6 P ρ') (hs : Go.Proofs.AnyZI.SortsIn P ρ' Fence.wide 4)
    (e9 : ∀ args w, (callFunc (ρ'.f 9) args).run P w = .ok (.enter (ρ'.f 9) args) w) (eg : ∀ args w, (callFunc (ρ.f 10) args).run P w = .ok (.enter (ρ.f 10) args) w)
    (hk : P.underlying (ρ.t 26) = some (.int .i64)) (G : Wld K w h M) {bm b : Nat} {ct : TypeId} {fr : Nat × Nat} (hbm : PH.all w bm = some (.cells #[.map (some b)] ct fr)) (hb : PH.all w b = some (.map es clk)) (hm : MapIs (.int .i64) intK es clk l)
    (hl : l.length ≤ 4000000) (hw : ∀ q ∈ l, -9223372036854775808 ≤ q.1 ∧ q.1 ≤ 9223372036854775807) :
    Calls P (ρ'.f 6) #[.func (.func (ρ.f 10)) #[] #[.pointer (some ⟨bm, 0, none⟩)]] w (RetM K h fun _ M' v => ∃ a c, v = .slice a (sortInts (l.map (·.1))).length c ∧ Own (ρ'.t 26) intE M M' a c (sortInts (l.map (·.1)))) := by
  obtain ⟨D, hown, hperm, hsize⟩ := hm.owns hk hb (by simp only [maxLen]; omega) hw
  have hseq := Go.Proofs.AnyZI.keys_gives (H := Unit) (ρ := ρ) { L7 with } Fence.wide 2 trivial rfl (by omega) bm b l.length D w (all_lt hbm) (cell_of (PH.le_refl _) hbm rfl) hown
  have cS := Go.Proofs.AnyZI.sorted_in L6 Fence.wide 5 trivial trivial trivial trivial rfl (by omega) hs e9 (ρ.f 10) #[.pointer (some ⟨bm, 0, none⟩)] trivial eg _ _ (by rw [hsize]; simp only [maxLen]; omega) (by rw [hsize]; omega) w hseq
  refine (callsIn_wide.1 cS).mono ?_
  rintro e w' ⟨v, ss, rfl, hS, hrow, hnil, hbel⟩
  have hle : PH.le (PH.all w) (PH.all w') := fun x o e => by
    have := hbel.block x (all_lt e)
    simp only [PH.all] at e ⊢
    rw [this]; exact e
  have hkey : keyOf w' = K := by rw [← G.key]; simp [keyOf, hbel.os, hbel.tape, hbel.output]
  have hss : ss.mergeSort (fun x y => decide (x ≤ y)) = sortInts (l.map (·.1)) := Go.mergeSort_of_perm_i (hS.trans hperm)
  rw [hss] at hrow
  have hlen : ss.length = (sortInts (l.map (·.1))).length := by rw [← hss]; simp
  rw [hlen] at hrow
  obtain ⟨_, hrow⟩ := hrow
  rcases hrow with ⟨rfl, hz⟩ | ⟨g, cap, cur, rfl, hg, hc, h1, h2, h3, h4⟩
  · refine RetM.mk (M' := M) (PH.le_refl _) ⟨hkey, G.imm.trans hle, G.own.trans hle, G.dis⟩ ⟨none, 0, by rw [hz], .inl ⟨rfl, rfl, List.eq_nil_of_length_eq_zero hz, rfl⟩⟩
  · have hn : ∀ {N : PH}, PH.le N (PH.all w) → N g = none := fun {N} hN => by
      cases hx : N g with
      | none => rfl
      | some o => have := all_lt (hN _ _ hx); omega
    refine RetM.mk (M' := M.set g (.cells cur (ρ'.t 26) (0, 0))) (PH.le_refl _) ⟨hkey, G.imm.trans hle, fun x o e => ?_, fun x o e => ?_⟩ ⟨_, cap, rfl, .inr ⟨g, cur, rfl, hn G.own, rfl, h1, h2, by simpa [intE] using Nat.le_of_eq h3.symm, ?_⟩⟩
    · by_cases hx : x = g
      · subst hx; rw [PH.set_same] at e; rw [← e]; exact hc
      · rw [PH.set_other _ _ hx] at e; exact hle _ _ (G.own _ _ e)
    · by_cases hx : x = g
      · subst hx; exact hn G.imm
      · rw [PH.set_other _ _ hx] at e; exact G.dis _ _ e
    · rw [flat_one_get (E := intE) (f := Go.encZ) (fun _ => rfl)]; simpa [intE] using h4
end
end Go.Wk
