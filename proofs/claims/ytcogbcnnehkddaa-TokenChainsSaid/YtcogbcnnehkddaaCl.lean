/-
  What stays of a row of tokens when some go: plain facts for 'Cut' and 'Drop'.
-/
import Derived.Test.YtcogbcnnehkddaaDl
import Derived.Test.YtcogbcnnehkddaaSo
namespace Go.Wk
open Go

section
variable {row : List Tok} {last : Int} (wf : RowWf row last)
include wf
theorem gone_zero (g : List Int) : (0 : Int) ∈ gone row g ↔ (0 : Int) ∈ g := by
  refine ⟨fun h => ?_, gone_self⟩
  rcases gone_sub h with h | ⟨t, ht, e⟩
  · exact h
  · have := wf.bd t ht; omega
omit wf in
theorem not_tok {g : List Int} {x : Int} (hx : ∀ t ∈ row, t.id ≠ x) : x ∈ gone row g ↔ x ∈ g := by
  refine ⟨fun h => ?_, gone_self⟩
  rcases gone_sub h with h | ⟨t, ht, e⟩
  · exact h
  · exact absurd e (hx t ht)
/-- What is gone of the tokens, told by any set that goes the same way. -/
theorem gone_uniq {g : List Int} {C : Int → Prop} (h0 : C 0 ↔ (0 : Int) ∈ g) (h : ∀ t ∈ row, C t.id ↔ t.id ∈ g ∨ C t.parent) : ∀ t ∈ row, (C t.id ↔ t.id ∈ gone row g) := by
  refine wf.ind fun t ht ih => ?_
  rw [h t ht, gone_iff wf g ht]
  rcases wf.up ht with h1 | ⟨s, hs, e, _⟩
  · rw [h1, h0, gone_zero wf]
  · rw [← e, ih s hs e]
theorem gone_ext {g g' : List Int} (h : ∀ x, x ∈ g ↔ x ∈ g') : ∀ t ∈ row, (t.id ∈ gone row g ↔ t.id ∈ gone row g') :=
  gone_uniq wf (C := fun x => x ∈ gone row g) (by rw [gone_zero wf, h]) fun t ht => by rw [gone_iff wf g ht, h]
theorem cutF_ext {g g' : List Int} (h : ∀ x, x ∈ g ↔ x ∈ g') : cutF row g = cutF row g' := by
  rw [cutF_eq wf, cutF_eq wf]
  exact List.filter_congr fun t ht => decide_eq_decide.2 (not_congr (gone_ext wf h t ht))
theorem idsF_ext {g g' : List Int} (h : ∀ x, x ∈ g ↔ x ∈ g') : idsF row g = idsF row g' := by
  rw [idsF_eq wf, idsF_eq wf]
  congr 1
  exact List.filter_congr fun t ht => decide_eq_decide.2 (gone_ext wf h t ht)
theorem mem_cutF {g : List Int} {t : Tok} : t ∈ cutF row g ↔ t ∈ row ∧ t.id ∉ gone row g := by
  rw [cutF_eq wf, List.mem_filter]; simp
theorem mem_idsF {g : List Int} {x : Int} : x ∈ idsF row g ↔ (∃ t ∈ row, t.id = x) ∧ x ∈ gone row g := by
  rw [idsF_eq wf]
  simp only [List.mem_map, List.mem_filter, decide_eq_true_eq]
  constructor
  · rintro ⟨t, ⟨h1, h2⟩, rfl⟩; exact ⟨⟨t, h1, rfl⟩, h2⟩
  · rintro ⟨⟨t, h1, rfl⟩, h2⟩; exact ⟨t, ⟨h1, h2⟩, rfl⟩
theorem idsF_rise (g : List Int) : (idsF row g).Pairwise (· < ·) := by
  rw [idsF_eq wf]; exact wf.rise.sublist (List.filter_sublist.map _)
/-- Numbers that are those that go, sorted, are those that go as the row tells them. -/
theorem idsF_sorted {g out : List Int} (hn : out.Nodup) (hm : ∀ x, x ∈ out ↔ (∃ t ∈ row, t.id = x) ∧ x ∈ gone row g) : out.mergeSort (fun x y => decide (x ≤ y)) = idsF row g := by
  have hr := idsF_rise wf g
  refine List.Perm.eq_of_pairwise (le := fun a b : Int => a ≤ b) (fun a b _ _ h1 h2 => by omega) ?_ (hr.imp fun h => by omega) ?_
  · exact (List.pairwise_mergeSort (le := fun x y : Int => decide (x ≤ y)) (fun a b c h1 h2 => by simp at *; omega) (fun a b => by simp; omega) out).imp (fun h => by simpa using h)
  · refine (List.mergeSort_perm _ _).trans ((List.perm_ext_iff_of_nodup hn (hr.imp fun h => by omega)).2 fun x => ?_)
    rw [hm, mem_idsF wf]
/-- Cut once more. -/
theorem cut_again {g : List Int} {k : Int} (hk : ∃ t ∈ cutF row g, t.id = k) :
    cutF (cutF row g) [k] = cutF row (g ++ [k]) ∧ ∀ x, ((∃ t ∈ row, t.id = x) ∧ x ∈ gone row (g ++ [k])) ↔ ((∃ t ∈ row, t.id = x) ∧ x ∈ gone row g) ∨ ((∃ t ∈ cutF row g, t.id = x) ∧ x ∈ gone (cutF row g) [k]) := by
  have wf' := cutF_wf wf g
  have hk0 : k ≠ 0 := by obtain ⟨t, ht, rfl⟩ := hk; exact wf'.pos ht
  have key : ∀ t ∈ row, (t.id ∈ gone row g ∨ ((∃ s ∈ cutF row g, s.id = t.id) ∧ t.id ∈ gone (cutF row g) [k])) ↔ t.id ∈ gone row (g ++ [k]) := by
    refine gone_uniq wf (C := fun x => x ∈ gone row g ∨ ((∃ s ∈ cutF row g, s.id = x) ∧ x ∈ gone (cutF row g) [k])) ?_ fun t ht => ?_
    · constructor
      · rintro (h | ⟨⟨s, hs, e⟩, _⟩)
        · exact List.mem_append_left _ ((gone_zero wf g).1 h)
        · exact absurd e (wf'.pos hs)
      · intro h
        rcases List.mem_append.1 h with h | h
        · exact .inl (gone_self h)
        · simp only [List.mem_singleton] at h; exact absurd h.symm hk0
    · by_cases hg : t.id ∈ gone row g
      · refine ⟨fun _ => ?_, fun _ => .inl hg⟩
        rcases (gone_iff wf g ht).1 hg with h | h
        · exact .inl (List.mem_append_left _ h)
        · exact .inr (.inl h)
      · have ht' : t ∈ cutF row g := (mem_cutF wf).2 ⟨ht, hg⟩
        have hg' := fun h => hg ((gone_iff wf g ht).2 h)
        constructor
        · rintro (h | ⟨_, h⟩)
          · exact absurd h hg
          · rcases (gone_iff wf' [k] ht').1 h with h | h
            · exact .inl (List.mem_append_right _ h)
            · rcases wf'.up ht' with h1 | ⟨s, hs, e, _⟩
              · rw [h1] at h; have := (gone_zero wf' [k]).1 h; simp only [List.mem_singleton] at this; omega
              · exact .inr (.inr ⟨⟨s, hs, e⟩, h⟩)
        · rintro (h | h | ⟨_, h⟩)
          · rcases List.mem_append.1 h with h | h
            · exact absurd (.inl h) hg'
            · exact .inr ⟨⟨t, ht', rfl⟩, gone_self h⟩
          · exact absurd (.inr h) hg'
          · exact .inr ⟨⟨t, ht', rfl⟩, (gone_iff wf' [k] ht').2 (.inr h)⟩
  constructor
  · rw [cutF_eq wf', cutF_eq wf, cutF_eq wf, List.filter_filter]
    refine List.filter_congr fun t ht => ?_
    have := key t ht
    rw [← cutF_eq wf] at *
    by_cases h1 : t.id ∈ gone row g
    · have : t.id ∈ gone row (g ++ [k]) := this.1 (.inl h1)
      simp [h1, this]
    · have h2 : ∃ s ∈ cutF row g, s.id = t.id := ⟨t, (mem_cutF wf).2 ⟨ht, h1⟩, rfl⟩
      by_cases h3 : t.id ∈ gone (cutF row g) [k]
      · have : t.id ∈ gone row (g ++ [k]) := this.1 (.inr ⟨h2, h3⟩)
        simp [h3, this]
      · have : t.id ∉ gone row (g ++ [k]) := fun h => by rcases this.2 h with h | h; exact h1 h; exact h3 h.2
        simp [h1, h3, this]
  · intro x
    constructor
    · rintro ⟨⟨t, ht, rfl⟩, h⟩
      rcases (key t ht).2 h with h | h
      · exact .inl ⟨⟨t, ht, rfl⟩, h⟩
      · exact .inr h
    · rintro (⟨⟨t, ht, rfl⟩, h⟩ | ⟨⟨t, ht, rfl⟩, h⟩)
      · exact ⟨⟨t, ht, rfl⟩, (key t ht).1 (.inl h)⟩
      · have ht' := ((mem_cutF wf).1 ht).1
        exact ⟨⟨t, ht', rfl⟩, (key t ht').1 (.inr ⟨⟨t, ht, rfl⟩, h⟩)⟩
/-- One that is gone already changes nothing. -/
theorem cut_gone {g : List Int} {k : Int} (hk : ∃ t ∈ row, t.id = k) (hg : k ∈ gone row g) : ∀ t ∈ row, (t.id ∈ gone row (g ++ [k]) ↔ t.id ∈ gone row g) := by
  have hk0 : k ≠ 0 := by obtain ⟨t, ht, rfl⟩ := hk; exact wf.pos ht
  intro t ht
  refine (gone_uniq wf (C := fun x => x ∈ gone row g) ?_ (fun t ht => ?_) t ht).symm
  · rw [gone_zero wf, List.mem_append, List.mem_singleton]; exact ⟨.inl, fun h => h.resolve_right (Ne.symm hk0)⟩
  · rw [gone_iff wf g ht, List.mem_append, List.mem_singleton]
    constructor
    · exact fun h => h.imp .inl id
    · rintro ((h | rfl) | h)
      · exact .inl h
      · exact (gone_iff wf g ht).1 hg
      · exact .inr h
end

/-! ### The tree behind a cut -/
theorem Rel.of {ns : List Nd} {row : List Tok} {last : Int} (hnd : (ns.map (·.id)).Nodup) (root : ∃ n ∈ ns, n.id = 0) (node : ∀ n ∈ ns, n.id = 0 ∨ (⟨n.id, n.parent, n.fact⟩ : Tok) ∈ row)
    (tok : ∀ t ∈ row, ∃ n ∈ ns, n.id = t.id ∧ n.parent = t.parent ∧ n.fact = t.fact) (kids : ∀ n ∈ ns, n.kids = kidsOf row n.id) (wf : RowWf row last) : Rel ns row last := by
  refine ⟨root, node, tok, kids, ?_, wf⟩
  have hn2 : (0 :: row.map (·.id)).Nodup := List.nodup_cons.2 ⟨fun h => by obtain ⟨t, ht, e⟩ := List.mem_map.1 h; exact wf.pos ht e, wf.ids⟩
  have hp := (List.perm_ext_iff_of_nodup hnd hn2).2 fun x => by
    simp only [List.mem_map, List.mem_cons]
    constructor
    · rintro ⟨n, hn, rfl⟩
      rcases node n hn with h | h
      · exact .inl h
      · exact .inr ⟨_, h, rfl⟩
    · rintro (rfl | ⟨t, ht, rfl⟩)
      · obtain ⟨n, hn, e⟩ := root; exact ⟨n, hn, e⟩
      · obtain ⟨n, hn, e, _⟩ := tok t ht; exact ⟨n, hn, e⟩
  have := hp.length_eq
  simpa using this

theorem Rel.hex {ns : List Nd} {row : List Tok} {last : Int} (R : Rel ns row last) {n : Nd} (hn : n ∈ ns) : ∀ x, (x = n.id ∨ Blw row n.id x) → ∃ m ∈ ns, m.id = x ∧ m.kids = kidsOf row x := by
  rintro x (rfl | ⟨t, ht, rfl, _⟩)
  · exact ⟨n, hn, rfl, R.kids n hn⟩
  · obtain ⟨m, hm, e, _⟩ := R.tok t ht
    exact ⟨m, hm, e, e ▸ R.kids m hm⟩

theorem mem_keep {ns : List Nd} {out : List Int} {n : Nd} : n ∈ keep ns out ↔ n ∈ ns ∧ n.id ∉ out := by unfold keep; rw [List.mem_filter]; simp
theorem mem_clr {ns : List Nd} {a : Int} {m : Nd} : m ∈ clr a ns ↔ ∃ n ∈ ns, m = if n.id = a then { n with kids := [], ka := none, kc := 0 } else n := by
  unfold clr
  rw [List.mem_map]
  constructor
  · rintro ⟨n, h, e⟩; exact ⟨n, h, e.symm⟩
  · rintro ⟨n, h, e⟩; exact ⟨n, h, e.symm⟩

theorem kidsOf_cut {row : List Tok} {last : Int} (wf : RowWf row last) {a x : Int} (hx : x ∉ gone row [a]) : kidsOf (cutF row [a]) x = (kidsOf row x).filter fun k => !(k == a) := by
  rw [cutF_eq wf]
  unfold kidsOf
  rw [List.filter_map, List.filter_filter, List.filter_filter]
  congr 1
  refine List.filter_congr fun t ht => ?_
  simp only [Function.comp]
  by_cases hp : t.parent = x
  · have := gone_iff wf [a] ht
    rw [hp] at this
    simp only [hx, or_false, List.mem_singleton] at this
    by_cases h : t.id = a
    · simp [h, this.2 h, show a ∈ gone row [a] from gone_self (by simp)]
    · simp [hp, h, mt this.1 h]
  · simp [hp]

theorem Rel.cutRoot {ns : List Nd} {row : List Tok} {last : Int} (R : Rel ns row last) {out : List Int} (hm : ∀ x, x ∈ out ↔ Blw row 0 x) (hnd : ((clr 0 (keep ns out)).map (·.id)).Nodup) :
    Rel (clr 0 (keep ns out)) (cutF row [0]) last := by
  have wf := R.wf
  have hall : ∀ t ∈ row, Blw row 0 t.id := wf.ind fun t ht ih => (Blw.iff wf ht).2 (by
    rcases wf.up ht with h | ⟨s, hs, e, _⟩
    · exact .inl h
    · exact .inr (e ▸ ih s hs e))
  have hrow : cutF row [0] = [] := by
    rw [cutF_eq wf, List.filter_eq_nil_iff]
    intro t ht
    simpa using (gone_one wf).2 (.inr (hall t ht))
  have hz : ∀ m ∈ clr 0 (keep ns out), m.id = 0 ∧ m.kids = [] := by
    intro m hm'
    obtain ⟨n, hn, rfl⟩ := mem_clr.1 hm'
    obtain ⟨h1, h2⟩ := mem_keep.1 hn
    have h0 : n.id = 0 := by
      rcases R.node n h1 with h | h
      · exact h
      · exact absurd ((hm _).2 (hall _ h)) h2
    rw [if_pos h0]
    exact ⟨h0, rfl⟩
  have wf0 := cutF_wf wf [0]
  rw [hrow] at wf0 ⊢
  refine Rel.of hnd ?_ (fun m h => .inl (hz m h).1) (by simp) (fun m h => (hz m h).2) wf0
  obtain ⟨n, hn, h0⟩ := R.root
  refine ⟨_, mem_clr.2 ⟨n, mem_keep.2 ⟨hn, fun h => ?_⟩, rfl⟩, by rw [if_pos h0]; exact h0⟩
  obtain ⟨t, ht, e, _⟩ := (hm _).1 h
  exact wf.pos ht (e.trans h0)

theorem Rel.cutTok {ns : List Nd} {row : List Tok} {last : Int} (R : Rel ns row last) {n : Nd} (hn : n ∈ ns) (h0 : n.id ≠ 0) (hids : (ns.map (·.id)).Nodup) {out : List Int} (hm : ∀ x, x ∈ out ↔ Blw row n.id x) {l r : List Nd} {q : Nd}
    (hq : clr n.id (keep ns out) = l ++ q :: r) (hqi : q.id = n.parent) {ka : Option Addr} {kc : Nat}
    (hnd : (((l ++ { q with kids := q.kids.filter (fun k => !(k == n.id)), ka := ka, kc := kc } :: r).filter fun m => decide (m.id ≠ n.id)).map (·.id)).Nodup) :
    Rel ((l ++ { q with kids := q.kids.filter (fun k => !(k == n.id)), ka := ka, kc := kc } :: r).filter fun m => decide (m.id ≠ n.id)) (cutF row [n.id]) last := by
  have wf := R.wf
  have htn : (⟨n.id, n.parent, n.fact⟩ : Tok) ∈ row := (R.node n hn).resolve_left h0
  have hpar : n.parent ≠ n.id := by
    rcases wf.up htn with h | ⟨s, hs, e, h⟩ <;> simp only at * <;> omega
  -- a node that stays is one of ns
  have hst : ∀ m, m ∈ clr n.id (keep ns out) → m.id ≠ n.id → m ∈ ns ∧ m.id ∉ gone row [n.id] := by
    intro m hm' hne
    obtain ⟨k, hk, rfl⟩ := mem_clr.1 hm'
    by_cases hki : k.id = n.id
    · rw [if_pos hki] at hne; exact absurd hki hne
    · rw [if_neg hki] at hne ⊢
      obtain ⟨h1, h2⟩ := mem_keep.1 hk
      exact ⟨h1, fun h => by rcases (gone_one wf).1 h with h | h; exact hki h; exact h2 ((hm _).2 h)⟩
  have hts : ∀ m ∈ ns, m.id ∉ gone row [n.id] → m ∈ clr n.id (keep ns out) := by
    intro m hm' hg
    rw [gone_one wf, not_or] at hg
    exact mem_clr.2 ⟨m, mem_keep.2 ⟨hm', fun h => hg.2 ((hm _).1 h)⟩, by rw [if_neg hg.1]⟩
  have hfin : ∀ m, m ∈ (l ++ { q with kids := q.kids.filter (fun k => !(k == n.id)), ka := ka, kc := kc } :: r).filter (fun m => decide (m.id ≠ n.id)) →
      ∃ k ∈ ns, k.id ∉ gone row [n.id] ∧ m.id = k.id ∧ m.parent = k.parent ∧ m.fact = k.fact ∧ m.kids = k.kids.filter (fun x => !(x == n.id)) := by
    intro m hm'
    obtain ⟨h1, h2⟩ := List.mem_filter.1 hm'
    simp only [decide_eq_true_eq] at h2
    have hmem : ∀ k, k ∈ l ++ q :: r → k.id ≠ n.id → k ∈ ns ∧ k.id ∉ gone row [n.id] := fun k hk => hst k (hq ▸ hk)
    rw [List.mem_append, List.mem_cons] at h1
    have other : ∀ k, k ∈ ns → k.id ∉ gone row [n.id] → k.id ≠ q.id → k.kids = k.kids.filter (fun x => !(x == n.id)) := by
      intro k hk _ hkq
      refine (List.filter_eq_self.2 fun x hx => ?_).symm
      rw [R.kids k hk] at hx
      obtain ⟨t, ht, e1, e2⟩ := mem_kidsOf.1 hx
      simp only [Bool.not_eq_true', beq_eq_false_iff_ne, ne_eq]
      intro e
      have := wf.uniq ht htn (by simp only; omega)
      rw [this] at e1
      simp only at e1
      omega
    have hlq : ∀ k, (k ∈ l ∨ k ∈ r) → k.id ≠ n.id → k.id ≠ q.id := by
      intro k hk hne e
      have hidn : ((l ++ q :: r).map (·.id)).Nodup := by
        rw [← hq]
        have : (clr n.id (keep ns out)).map (·.id) = (keep ns out).map (·.id) := by
          unfold clr
          rw [List.map_map]
          exact List.map_congr_left fun m _ => by simp only [Function.comp]; split <;> rfl
        rw [this]
        exact hids.sublist (List.filter_sublist.map _)
      have hp : (l ++ q :: r).Perm (q :: (l ++ r)) := List.perm_middle
      have h4 := ((hp.map (·.id)).nodup_iff).1 hidn
      simp only [List.map_cons, List.nodup_cons] at h4
      exact h4.1 (by rw [← e]; exact List.mem_map.2 ⟨k, List.mem_append.2 hk, rfl⟩)
    rcases h1 with h1 | rfl | h1
    · obtain ⟨g1, g2⟩ := hmem m (by simp [h1]) h2
      exact ⟨m, g1, g2, rfl, rfl, rfl, other m g1 g2 (hlq m (.inl h1) h2)⟩
    · obtain ⟨g1, g2⟩ := hmem q (by simp) h2
      exact ⟨q, g1, g2, rfl, rfl, rfl, rfl⟩
    · obtain ⟨g1, g2⟩ := hmem m (by simp [h1]) h2
      exact ⟨m, g1, g2, rfl, rfl, rfl, other m g1 g2 (hlq m (.inr h1) h2)⟩
  have hback : ∀ k ∈ ns, k.id ∉ gone row [n.id] → ∃ m ∈ (l ++ { q with kids := q.kids.filter (fun k => !(k == n.id)), ka := ka, kc := kc } :: r).filter (fun m => decide (m.id ≠ n.id)), m.id = k.id ∧ m.parent = k.parent ∧ m.fact = k.fact := by
    intro k hk hg
    have hne : k.id ≠ n.id := fun e => hg (e ▸ gone_self (by simp))
    have := hts k hk hg
    rw [hq, List.mem_append, List.mem_cons] at this
    rcases this with h | rfl | h
    · exact ⟨k, List.mem_filter.2 ⟨by simp [h], by simpa using hne⟩, rfl, rfl, rfl⟩
    · exact ⟨{ k with kids := k.kids.filter (fun x => !(x == n.id)), ka := ka, kc := kc }, List.mem_filter.2 ⟨by simp, by simpa using hne⟩, rfl, rfl, rfl⟩
    · exact ⟨k, List.mem_filter.2 ⟨by simp [h], by simpa using hne⟩, rfl, rfl, rfl⟩
  refine Rel.of hnd ?_ (fun m hm' => ?_) (fun t ht => ?_) (fun m hm' => ?_) (cutF_wf wf _)
  · obtain ⟨k, hk, e⟩ := R.root
    obtain ⟨m, h1, h2, _⟩ := hback k hk (by rw [e, gone_zero wf]; simpa using Ne.symm h0)
    exact ⟨m, h1, h2.trans e⟩
  · obtain ⟨k, hk, hg, e1, e2, e3, _⟩ := hfin m hm'
    rw [e1, e2, e3]
    exact (R.node k hk).imp id fun h => (mem_cutF wf).2 ⟨h, hg⟩
  · obtain ⟨h1, h2⟩ := (mem_cutF wf).1 ht
    obtain ⟨k, hk, e1, e2, e3⟩ := R.tok t h1
    obtain ⟨m, hm', g1, g2, g3⟩ := hback k hk (e1 ▸ h2)
    exact ⟨m, hm', g1.trans e1, g2.trans e2, g3.trans e3⟩
  · obtain ⟨k, hk, hg, e1, _, _, e4⟩ := hfin m hm'
    rw [e4, e1, kidsOf_cut wf hg, R.kids k hk]
/-- Nothing has that number. -/
theorem cut_none {row : List Tok} {last : Int} (wf : RowWf row last) {a : Int} (h0 : a ≠ 0) (h : ∀ t ∈ row, t.id ≠ a) : cutF row [a] = row ∧ idsF row [a] = [] := by
  have hg : ∀ t ∈ row, t.id ∉ gone row [a] := wf.ind fun t ht ih => by
    rw [gone_iff wf [a] ht, not_or]
    refine ⟨by simpa using h t ht, ?_⟩
    rcases wf.up ht with h1 | ⟨s, hs, e, _⟩
    · rw [h1, gone_zero wf]; simpa using Ne.symm h0
    · rw [← e]; exact ih s hs e
  constructor
  · rw [cutF_eq wf, List.filter_eq_self]
    intro t ht; simpa using hg t ht
  · rw [idsF_eq wf, List.filter_eq_nil_iff.2 (fun t ht => by simpa using hg t ht)]; rfl

section
variable {ns : List Nd} {row : List Tok} {last : Int} (R : Rel ns row last) {n : Nd} (hn : n ∈ ns) {out : List Int} (hom : ∀ x, x ∈ out ↔ Blw row n.id x)
include R
include hn hom in
theorem Rel.parent (h0 : n.id ≠ 0) : ∃ q ∈ clr n.id (keep ns out), q.id = n.parent := by
  have htn : (⟨n.id, n.parent, n.fact⟩ : Tok) ∈ row := (R.node n hn).resolve_left h0
  have hlt : n.parent < n.id := by
    rcases R.wf.up htn with h | ⟨s, hs, e, h⟩ <;> simp only at *
    · have := (R.wf.bd _ htn).1; simp only at this; omega
    · omega
  have hq : ∃ q ∈ ns, q.id = n.parent := by
    rcases R.wf.up htn with h | ⟨s, hs, e, _⟩
    · simp only at h; rw [h]; exact R.root
    · obtain ⟨q, hq, e', _⟩ := R.tok s hs; exact ⟨q, hq, e'.trans e⟩
  obtain ⟨q, hq, e⟩ := hq
  refine ⟨q, mem_clr.2 ⟨q, mem_keep.2 ⟨hq, fun h => ?_⟩, ?_⟩, e⟩
  · have := ((hom _).1 h).lt R.wf; omega
  · rw [if_neg]; omega
omit R in
theorem clr_node {ns : List Nd} {n : Nd} (hn : n ∈ ns) {out : List Int} (ho : n.id ∉ out) : ({ n with kids := [], ka := none, kc := 0 } : Nd) ∈ clr n.id (keep ns out) :=
  mem_clr.2 ⟨n, mem_keep.2 ⟨hn, ho⟩, by rw [if_pos rfl]⟩
theorem Rel.klen {a : Int} {q : Nd} (hq : q ∈ clr a (keep ns out)) : q.kids.length ≤ row.length := by
  obtain ⟨k, hk, rfl⟩ := mem_clr.1 hq
  split
  · simp
  · rw [R.kids k (mem_keep.1 hk).1]; exact kidsOf_len _ _
include hom in
theorem Rel.outNd (hon : out.Nodup) : (out ++ [n.id]).Nodup :=
  List.nodup_append.2 ⟨hon, by simp, fun a ha b hb e => by
    simp only [List.mem_singleton] at hb
    subst hb; subst e
    have := ((hom _).1 ha).lt R.wf; omega⟩
include hn hom in
theorem Rel.outMem (h0 : n.id ≠ 0) : ∀ x, x ∈ out ++ [n.id] ↔ (∃ t ∈ row, t.id = x) ∧ x ∈ gone row [n.id] := by
  intro x
  rw [gone_one R.wf, List.mem_append, List.mem_singleton, hom]
  constructor
  · rintro (h | rfl)
    · obtain ⟨t, ht, e, _⟩ := id h; exact ⟨⟨t, ht, e⟩, .inr h⟩
    · exact ⟨⟨_, (R.node n hn).resolve_left h0, rfl⟩, .inl rfl⟩
  · rintro ⟨_, h | h⟩
    · exact .inr h
    · exact .inl h
theorem Rel.outMem0 (hom : ∀ x, x ∈ out ↔ Blw row 0 x) : ∀ x, x ∈ out ↔ (∃ t ∈ row, t.id = x) ∧ x ∈ gone row [0] := by
  intro x
  rw [gone_one R.wf, hom]
  constructor
  · intro h
    obtain ⟨t, ht, e, _⟩ := id h; exact ⟨⟨t, ht, e⟩, .inr h⟩
  · rintro ⟨⟨t, ht, e⟩, h | h⟩
    · exact absurd (e.trans h) (R.wf.pos ht)
    · exact h
end

/-! ### The loop of 'Drop' -/
def hits (row : List Tok) (f : Int) (ks : List Int) : List Int := ks.filter fun k => decide (∃ t ∈ row, t.id = k ∧ t.fact = f)
/-- The tokens of a fact. -/
def factsOf (row : List Tok) (f : Int) : List Int := (row.filter fun t => decide (t.fact = f)).map (·.id)
structure DropUp (row : List Tok) (f : Int) (ks : List Int) (j : Nat) (out : List Int) : Prop where
  nd : out.Nodup
  mem : ∀ x, x ∈ out ↔ (∃ t ∈ row, t.id = x) ∧ x ∈ gone row (hits row f (ks.take j))
theorem hits_succ (row : List Tok) (f : Int) (ks : List Int) {j : Nat} (h : j < ks.length) :
    hits row f (ks.take (j + 1)) = hits row f (ks.take j) ++ (if ∃ t ∈ row, t.id = ks.getD j intE.dflt ∧ t.fact = f then [ks.getD j intE.dflt] else []) := by
  have e : ks.getD j intE.dflt = ks[j] := by simp [List.getD, h]
  unfold hits
  rw [List.take_succ_eq_append_getElem h, List.filter_append, e]
  congr 1
  by_cases h1 : ∃ t ∈ row, t.id = ks[j] ∧ t.fact = f
  · rw [if_pos h1, List.filter_cons_of_pos (by simpa using h1)]; rfl
  · rw [if_neg h1, List.filter_cons_of_neg (by simpa using h1)]; rfl
section
variable {row : List Tok} {last : Int} (wf : RowWf row last)
include wf
theorem gone_nil {t : Tok} (ht : t ∈ row) : t.id ∉ gone row [] := by
  have := gone_uniq wf (g := []) (C := fun _ => False) (by simp) (fun t _ => by simp) t ht
  exact fun h => this.2 h
theorem DropUp.start (f : Int) (ks : List Int) : DropUp row f ks 0 [] ∧ cutF row (hits row f (ks.take 0)) = row := by
  have hz : hits row f (ks.take 0) = [] := by simp [hits]
  refine ⟨⟨List.nodup_nil, fun x => ?_⟩, ?_⟩
  · rw [hz]
    constructor
    · simp
    · rintro ⟨⟨t, ht, rfl⟩, h⟩; exact absurd h (gone_nil wf ht)
  · rw [hz, cutF_eq wf, List.filter_eq_self]
    intro t ht; simpa using gone_nil wf ht
variable {f : Int} {ks : List Int} {j : Nat} {out : List Int}
omit wf in
theorem DropUp.len (u : DropUp row f ks j out) : out.length ≤ row.length := ids_len u.nd fun x hx => ((u.mem x).1 hx).1
theorem DropUp.hit (u : DropUp row f ks j out) (hj : j < ks.length) {k : Int} (hk : ks.getD j intE.dflt = k) {t : Tok} (ht : t ∈ cutF row (hits row f (ks.take j))) (hid : t.id = k) (hf : t.fact = f) :
    DropUp row f ks (j + 1) (out ++ idsF (cutF row (hits row f (ks.take j))) [k]) ∧ cutF (cutF row (hits row f (ks.take j))) [k] = cutF row (hits row f (ks.take (j + 1))) := by
  have wf' := cutF_wf wf (hits row f (ks.take j))
  obtain ⟨h1, h2⟩ := cut_again wf (g := hits row f (ks.take j)) (k := k) ⟨t, ht, hid⟩
  have ht0 := ((mem_cutF wf).1 ht)
  have e : hits row f (ks.take (j + 1)) = hits row f (ks.take j) ++ [k] := by
    rw [hits_succ row f ks hj, hk, if_pos ⟨t, ht0.1, hid, hf⟩]
  rw [e]
  refine ⟨⟨?_, fun x => ?_⟩, h1⟩
  · rw [List.nodup_append]
    refine ⟨u.nd, (idsF_rise wf' [k]).imp fun h => by omega, fun a ha b hb he => ?_⟩
    subst he
    obtain ⟨⟨s, hs, rfl⟩, _⟩ := (mem_idsF wf').1 hb
    exact ((mem_cutF wf).1 hs).2 ((u.mem _).1 ha).2
  · rw [e, h2, List.mem_append, u.mem, mem_idsF wf']
theorem DropUp.miss (u : DropUp row f ks j out) (hj : j < ks.length) {k : Int} (hk : ks.getD j intE.dflt = k) (hm : ∀ t ∈ cutF row (hits row f (ks.take j)), t.id = k → t.fact ≠ f) :
    DropUp row f ks (j + 1) out ∧ cutF row (hits row f (ks.take j)) = cutF row (hits row f (ks.take (j + 1))) := by
  by_cases h : ∃ t ∈ row, t.id = k ∧ t.fact = f
  · have e : hits row f (ks.take (j + 1)) = hits row f (ks.take j) ++ [k] := by rw [hits_succ row f ks hj, hk, if_pos h]
    obtain ⟨t, ht, hid, hf⟩ := h
    have hg : k ∈ gone row (hits row f (ks.take j)) := by
      refine Classical.byContradiction fun hn => ?_
      exact hm t ((mem_cutF wf).2 ⟨ht, hid ▸ hn⟩) hid hf
    have key := cut_gone wf ⟨t, ht, hid⟩ hg
    rw [e]
    refine ⟨⟨u.nd, fun x => ?_⟩, ?_⟩
    · rw [u.mem, e]
      constructor
      · rintro ⟨⟨s, hs, rfl⟩, h⟩; exact ⟨⟨s, hs, rfl⟩, (key s hs).2 h⟩
      · rintro ⟨⟨s, hs, rfl⟩, h⟩; exact ⟨⟨s, hs, rfl⟩, (key s hs).1 h⟩
    · rw [cutF_eq wf, cutF_eq wf]
      exact List.filter_congr fun s hs => decide_eq_decide.2 (not_congr (key s hs).symm)
  · have e : hits row f (ks.take (j + 1)) = hits row f (ks.take j) := by rw [hits_succ row f ks hj, hk, if_neg h, List.append_nil]
    exact ⟨⟨u.nd, fun x => by rw [u.mem, e]⟩, by rw [e]⟩
theorem DropUp.done (u : DropUp row f ks j out) (hj : j = ks.length) (hks : ∀ t ∈ row, t.id ∈ ks) :
    sortInts out = idsF row (factsOf row f) ∧ cutF row (hits row f (ks.take j)) = cutF row (factsOf row f) := by
  subst hj
  have hm : ∀ x, x ∈ hits row f (ks.take ks.length) ↔ x ∈ factsOf row f := by
    intro x
    rw [List.take_length]
    unfold hits factsOf
    simp only [List.mem_filter, decide_eq_true_eq, List.mem_map]
    constructor
    · rintro ⟨_, t, ht, rfl, hf⟩; exact ⟨t, ⟨ht, hf⟩, rfl⟩
    · rintro ⟨t, ⟨ht, hf⟩, rfl⟩; exact ⟨hks t ht, t, ht, rfl, hf⟩
  exact ⟨(idsF_sorted wf u.nd u.mem).trans (idsF_ext wf hm), cutF_ext wf hm⟩
end
section
variable {M0 M M1 M2 : PH} {p : Nat} {row : List Tok} {last : Int} {S : Type} {E : Enc S} {t cap : Nat} {a : Option Addr} {xs : List S}
theorem TreeA.lift (T : TreeA M0 M1 p row last) (o : Own t E M1 M2 a cap xs) : ∃ N, Own t E M0 N a cap xs ∧ TreeA N M2 p row last := by
  obtain ⟨bm, ns, T, R⟩ := T
  obtain ⟨N, o', T'⟩ := T.lift o
  exact ⟨N, o', bm, ns, T', R⟩
theorem TreeA.sink (o : Own t E M0 M1 a cap xs) (T : TreeA M1 M2 p row last) : ∃ N, TreeA M0 N p row last ∧ Own t E N M2 a cap xs := by
  obtain ⟨bm, ns, T, R⟩ := T
  obtain ⟨N, T', o'⟩ := TreeM.sink o T
  exact ⟨N, ⟨bm, ns, T', R⟩, o'⟩
theorem TreeA.le (T : TreeA M0 M p row last) : PH.le M0 M := by obtain ⟨bm, ns, T, _⟩ := T; exact T.lay.le
end
theorem kidsOf_none {row : List Tok} {last : Int} (wf : RowWf row last) {a : Int} (h0 : a ≠ 0) (h : atF row a < 0) : kidsOf row a = [] := by
  unfold kidsOf
  rw [List.filter_eq_nil_iff.2, List.map_nil]
  intro t ht
  simp only [decide_eq_true_eq]
  intro e
  rcases wf.up ht with h1 | ⟨s, hs, e1, _⟩
  · omega
  · have := has_iff.2 ⟨s, hs, e1.trans e⟩; omega
theorem pathN_none {row : List Tok} {a : Int} (h0 : a ≠ 0) (h : atF row a < 0) : pathN row (row.length + 1) a = [] := by
  simp [pathN, h0, atF_neg h]

theorem Rel.key {ns : List Nd} {row : List Tok} {last : Int} (R : Rel ns row last) {t : Tok} (ht : t ∈ row) : t.id ∈ sortInts ((ents ns).map (·.1)) := by
  obtain ⟨n, hn, e, _⟩ := R.tok t ht
  unfold sortInts
  rw [List.mem_mergeSort]
  exact List.mem_map.2 ⟨(n.id, _), List.mem_map.2 ⟨n, hn, rfl⟩, e⟩
theorem Rel.range {ns : List Nd} {row : List Tok} {last : Int} (R : Rel ns row last) (hl : last ≤ 100000) : ∀ q ∈ ents ns, -9223372036854775808 ≤ q.1 ∧ q.1 ≤ 9223372036854775807 := by
  intro q hq
  obtain ⟨n, hn, rfl⟩ := List.mem_map.1 hq
  rcases R.node n hn with h | h
  · simp only [h]; omega
  · have := R.wf.bd _ h; simp only at this ⊢; omega
theorem Rel.fact {ns : List Nd} {row : List Tok} {last : Int} (R : Rel ns row last) {n : Nd} (hn : n ∈ ns) {t : Tok} (ht : t ∈ row) (e : n.id = t.id) : n.fact = t.fact := by
  rcases R.node n hn with h | h
  · exact absurd (e.symm.trans h) (R.wf.pos ht)
  · have := R.wf.uniq h ht e
    rw [← this]
theorem cutF_len {row : List Tok} {last : Int} (wf : RowWf row last) (g : List Int) : (cutF row g).length ≤ row.length := by rw [cutF_eq wf]; exact List.length_filter_le _ _
theorem idsF_len {row : List Tok} {last : Int} (wf : RowWf row last) (g : List Int) : (idsF row g).length ≤ row.length := by rw [idsF_eq wf, List.length_map]; exact List.length_filter_le _ _
end Go.Wk
