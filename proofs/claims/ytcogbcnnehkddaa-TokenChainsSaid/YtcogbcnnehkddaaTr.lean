/-
  How a tree of tokens lies in memory: its struct, its map, for each token a node and the block of its kids.
-/
import Derived.Test.YtcogbcnnehkddaaSl
namespace Go.Wk
open Go

structure Nd where
  id : Int
  parent : Int
  fact : Int
  kids : List Int
  b : Nat
  ka : Option Addr
  kc : Nat

def gf (n : Nd) : List Nat := match n.ka with | some a => [a.block] | none => []
def foot (n : Nd) : List Nat := n.b :: gf n
def feet (ns : List Nd) : List Nat := ns.flatMap foot
def KOn (M : PH) (n : Nd) : Prop := (n.ka = none ∧ n.kc = 0 ∧ n.kids = []) ∨ ∃ g cur, n.ka = some ⟨g, 0, none⟩ ∧ M g = some (.cells cur 3 (0, 0)) ∧ n.kids.length ≤ n.kc ∧ n.kc ≤ maxLen ∧
  cur.size = n.kc * intE.sz ∧ cur.toList.take (n.kids.length * intE.sz) = flat intE n.kids
def nodeObj (n : Nd) : Obj := .cells #[.int .i64 n.parent, .int .i64 n.fact, .slice n.ka n.kids.length n.kc] 48 (0, 0)
def NOn (M : PH) (n : Nd) : Prop := M n.b = some (nodeObj n) ∧ KOn M n
def ents (ns : List Nd) : List (Int × Value) := ns.map fun n => (n.id, .pointer (some ⟨n.b, 0, none⟩))
def rootObj (bm : Nat) (last : Int) : Obj := .cells #[.map (some bm), .int .i64 last] 51 (0, 0)

structure TreeM (M0 M : PH) (p bm : Nat) (ns : List Nd) (last : Int) : Prop where
  lay : Lay (p :: bm :: feet ns) M0 M
  nd : (p :: bm :: feet ns).Nodup
  root : M p = some (rootObj bm last)
  map : ∃ es clk, M bm = some (.map es clk) ∧ MapIs (.int .i64) intK es clk (ents ns)
  nodes : ∀ n ∈ ns, NOn M n

theorem KOn.keep {M M' : PH} {n : Nd} (h : KOn M n) (hk : ∀ b ∈ gf n, M' b = M b) : KOn M' n := by
  rcases h with h | ⟨g, cur, h1, h2, h3⟩
  · exact .inl h
  · exact .inr ⟨g, cur, h1, by rw [hk g (by simp [gf, h1])]; exact h2, h3⟩
theorem NOn.keep {M M' : PH} {n : Nd} (h : NOn M n) (hk : ∀ b ∈ foot n, M' b = M b) : NOn M' n :=
  ⟨by rw [hk n.b (by simp [foot])]; exact h.1, h.2.keep fun b hb => hk b (by simp [foot, hb])⟩
theorem feet_mem {ns : List Nd} {n : Nd} (h : n ∈ ns) {b : Nat} (hb : b ∈ foot n) : b ∈ feet ns := List.mem_flatMap.2 ⟨n, h, hb⟩

section
variable {M0 M : PH} {p bm : Nat} {ns : List Nd} {last : Int}

theorem TreeM.ids (T : TreeM M0 M p bm ns last) : (ns.map (·.id)).Nodup := by
  obtain ⟨es, clk, _, hm⟩ := T.map
  have := hm.nodup
  simpa [ents, List.map_map, Function.comp_def] using this
theorem ents_some {ns : List Nd} (hn : (ns.map (·.id)).Nodup) {n : Nd} (h : n ∈ ns) : (ents ns).lookup n.id = some (.pointer (some ⟨n.b, 0, none⟩)) :=
  lookup_some (by simpa [ents, List.map_map, Function.comp_def] using hn) (List.mem_map.2 ⟨n, h, rfl⟩)
theorem ents_none {ns : List Nd} {id : Int} (h : ∀ n ∈ ns, n.id ≠ id) : (ents ns).lookup id = none :=
  lookup_none fun q hq => by obtain ⟨n, hn, rfl⟩ := List.mem_map.1 hq; exact h n hn

theorem TreeM.setLast (T : TreeM M0 M p bm ns last) (last' : Int) : TreeM M0 (M.set p (rootObj bm last')) p bm ns last' := by
  have hnd := T.nd
  simp only [List.nodup_cons, List.mem_cons, not_or] at hnd
  obtain ⟨⟨h1, h2⟩, h3, h4⟩ := hnd
  refine ⟨T.lay.set (by simp) _, T.nd, PH.set_same _ _ _, ?_, fun n hn => (T.nodes n hn).keep fun b hb => PH.set_other _ _ (by rintro rfl; exact h2 (feet_mem hn hb))⟩
  obtain ⟨es, clk, hb, hm⟩ := T.map
  exact ⟨es, clk, by rw [PH.set_other _ _ (Ne.symm h1)]; exact hb, hm⟩

/-- A new token. -/
theorem TreeM.add (T : TreeM M0 M p bm ns last) {nb : Nat} (hn : M nb = none) (id parent fact : Int) (hid : ∀ n ∈ ns, n.id ≠ id) {es' : Array MapEntry} {clk' : Nat}
    (hm : MapIs (.int .i64) intK es' clk' (mput (ents ns) id (.pointer (some ⟨nb, 0, none⟩)))) :
    TreeM M0 ((M.set nb (nodeObj ⟨id, parent, fact, [], nb, none, 0⟩)).set bm (.map es' clk')) p bm (ns ++ [⟨id, parent, fact, [], nb, none, 0⟩]) last := by
  have hnd := T.nd
  have hfoot : feet (ns ++ [⟨id, parent, fact, [], nb, none, 0⟩]) = feet ns ++ [nb] := by simp [feet, foot, gf]
  obtain ⟨es, clk, hb, _⟩ := T.map
  have hfr : ∀ b ∈ p :: bm :: feet ns, M b ≠ none := by
    intro b hb'
    simp only [List.mem_cons] at hb'
    rcases hb' with rfl | rfl | hb'
    · rw [T.root]; simp
    · rw [hb]; simp
    · obtain ⟨n, hn', hbn⟩ := List.mem_flatMap.1 hb'
      have := T.nodes n hn'
      simp only [foot, List.mem_cons] at hbn
      rcases hbn with rfl | hbn
      · rw [this.1]; simp
      · rcases this.2 with ⟨e, _⟩ | ⟨g, cur, e, hg, _⟩
        · simp [gf, e] at hbn
        · simp only [gf, e, List.mem_singleton] at hbn; subst hbn; rw [hg]; simp
  have hnb : nb ∉ p :: bm :: feet ns := fun h => hfr nb h hn
  have hne : ∀ b ∈ p :: bm :: feet ns, b ≠ nb := fun b h e => hnb (e ▸ h)
  have hndn : (p :: bm :: (feet ns ++ [nb])).Nodup := by
    have : p :: bm :: (feet ns ++ [nb]) = (p :: bm :: feet ns) ++ [nb] := by simp
    rw [this, List.nodup_append]
    exact ⟨hnd, by simp, fun a ha b hb' => by simp only [List.mem_singleton] at hb'; subst hb'; exact hne a ha⟩
  simp only [List.nodup_cons, List.mem_cons, not_or] at hnd
  obtain ⟨⟨h1, h2⟩, h3, h4⟩ := hnd
  refine ⟨?_, by rw [hfoot]; exact hndn, ?_, ⟨es', clk', PH.set_same _ _ _, ?_⟩, fun n hn' => ?_⟩
  · rw [hfoot]
    refine Lay.set ((T.lay.new hn _).mono (fun b hb' => ?_) (fun b hb' => ?_)) (by simp) _
    · simp only [List.mem_cons, List.mem_append, List.not_mem_nil, or_false] at hb' ⊢
      rcases hb' with h | h | h | h
      · exact .inr (.inr (.inr h))
      · exact .inl h
      · exact .inr (.inl h)
      · exact .inr (.inr (.inl h))
    · by_cases e : b = nb
      · subst e; exact none_of_le T.lay.le hn
      · refine T.lay.free b ?_
        simp only [List.mem_cons, List.mem_append, List.not_mem_nil, or_false] at hb' ⊢
        rcases hb' with h | h | h | h
        · exact .inl h
        · exact .inr (.inl h)
        · exact .inr (.inr h)
        · exact absurd h e
  · rw [PH.set_other _ _ h1, PH.set_other _ _ (hne p (by simp))]; exact T.root
  · have e : ents (ns ++ [⟨id, parent, fact, [], nb, none, 0⟩]) = mput (ents ns) id (.pointer (some ⟨nb, 0, none⟩)) := by
      unfold mput; rw [ents_none hid]; simp [ents]
    rw [e]; exact hm
  · rcases List.mem_append.1 hn' with hn' | hn'
    · refine (T.nodes n hn').keep fun b hb' => ?_
      have hf := feet_mem hn' hb'
      rw [PH.set_other _ _ (by rintro rfl; exact h3 hf), PH.set_other _ _ (hne b (by simp [hf]))]
    · simp only [List.mem_singleton] at hn'
      subst hn'
      exact ⟨by rw [PH.set_other _ _ (fun e => (hne bm (by simp)) e.symm)]; exact PH.set_same _ _ _, .inl ⟨rfl, rfl, rfl⟩⟩

omit M0 p bm ns last in
/-- The first node alone. -/
theorem TreeM.new {b1 b2 b3 : Nat} (n1 : M b1 = none) {o1 : Obj} (n2 : (M.set b1 o1) b2 = none) {es' : Array MapEntry} {clk' : Nat}
    (hm : MapIs (.int .i64) intK es' clk' (mput ([] : List (Int × Value)) 0 (.pointer (some ⟨b2, 0, none⟩))))
    (n3 : (((M.set b1 o1).set b2 (nodeObj ⟨0, -1, 0, [], b2, none, 0⟩)).set b1 (.map es' clk')) b3 = none) :
    TreeM M ((((M.set b1 o1).set b2 (nodeObj ⟨0, -1, 0, [], b2, none, 0⟩)).set b1 (.map es' clk')).set b3 (rootObj b1 0)) b3 b1 [⟨0, -1, 0, [], b2, none, 0⟩] 0 := by
  have h21 : b2 ≠ b1 := fun e => by subst e; simp [PH.set] at n2
  have h31 : b3 ≠ b1 := fun e => by subst e; simp [PH.set] at n3
  have h32 : b3 ≠ b2 := fun e => by subst e; simp [PH.set, h21] at n3
  have hM2 : M b2 = none := by rw [PH.set_other _ _ h21] at n2; exact n2
  have hM3 : M b3 = none := by rw [PH.set_other _ _ h31, PH.set_other _ _ h32, PH.set_other _ _ h31] at n3; exact n3
  have hf : feet [⟨0, -1, 0, [], b2, none, 0⟩] = [b2] := by simp [feet, foot, gf]
  refine ⟨⟨fun b hb => ?_, fun b hb => ?_⟩, ?_, PH.set_same _ _ _, ⟨es', clk', ?_, ?_⟩, fun n hn => ?_⟩
  · rw [hf] at hb
    simp only [List.mem_cons, List.not_mem_nil, or_false] at hb
    rcases hb with rfl | rfl | rfl <;> assumption
  · rw [hf] at hb
    simp only [List.mem_cons, List.not_mem_nil, or_false, not_or] at hb
    rw [PH.set_other _ _ hb.1, PH.set_other _ _ hb.2.1, PH.set_other _ _ hb.2.2, PH.set_other _ _ hb.2.1]
  · rw [hf]; simp [h31, h32, Ne.symm h21]
  · rw [PH.set_other _ _ (Ne.symm h31), PH.set_same]
  · simpa [mput, ents] using hm
  · simp only [List.mem_singleton] at hn
    subst hn
    exact ⟨by rw [PH.set_other _ _ (Ne.symm h32), PH.set_other _ _ h21, PH.set_same], .inl ⟨rfl, rfl, rfl⟩⟩

/-- A token's kids as an own slice; Mn: what lies about it. -/
theorem TreeM.kids (T : TreeM M0 M p bm ns last) {n : Nd} (hn : n ∈ ns) : Own 3 intE (M.without (gf n)) M n.ka n.kc n.kids ∧ Lay (gf n) (M.without (gf n)) M := by
  have hl : Lay (gf n) (M.without (gf n)) M := ⟨fun b hb => by simp [PH.without, hb], fun b hb => by simp [PH.without, hb]⟩
  refine ⟨?_, hl⟩
  rcases (T.nodes n hn).2 with ⟨h1, h2, h3⟩ | ⟨g, cur, h1, h2, h3, h4, h5, h6⟩
  · exact .inl ⟨h1, h2, h3, by funext b; simp [PH.without, gf, h1]⟩
  · refine .inr ⟨g, cur, h1, by simp [PH.without, gf, h1], ?_, h3, h4, h5, h6⟩
    funext b
    by_cases hb : b = g
    · subst hb; rw [PH.set_same, h2]
    · rw [PH.set_other _ _ hb]; simp [PH.without, gf, h1, hb]

theorem TreeM.apart (T : TreeM M0 M p bm ns last) {n : Nd} (hn : n ∈ ns) : (M.without (gf n)) p = some (rootObj bm last) ∧ (M.without (gf n)) n.b = some (nodeObj n) := by
  have hnd := T.nd
  simp only [List.nodup_cons, List.mem_cons, not_or] at hnd
  constructor
  · have : p ∉ gf n := fun h => hnd.1.2 (feet_mem hn (by simp [foot, h]))
    simp only [PH.without, if_neg this]; exact T.root
  · have h1 : n.b ∉ gf n := by
      obtain ⟨l, r, rfl⟩ := List.append_of_mem hn
      have h2 := hnd.2.2
      have hf : feet (l ++ n :: r) = feet l ++ ((n.b :: gf n) ++ feet r) := by simp [feet, foot]
      rw [hf] at h2
      have h3 := (List.nodup_append.1 (List.nodup_append.1 h2).2.1).1
      exact (List.nodup_cons.1 h3).1
    simp only [PH.without, if_neg h1]; exact (T.nodes n hn).1

/-- A token's kids have become others, and its node says so. -/
theorem TreeM.upd {l r : List Nd} {n : Nd} (T : TreeM M0 M p bm (l ++ n :: r) last) {M' : PH} {ka : Option Addr} {kc : Nat} {ks : List Int} (ow : Own 3 intE (M.without (gf n)) M' ka kc ks) :
    M' n.b = some (nodeObj n) ∧ TreeM M0 (M'.set n.b (nodeObj { n with kids := ks, ka := ka, kc := kc })) p bm (l ++ { n with kids := ks, ka := ka, kc := kc } :: r) last := by
  have hnm : n ∈ l ++ n :: r := by simp
  have hN := T.nodes n hnm
  have hnd := T.nd
  have hf : feet (l ++ n :: r) = feet l ++ (n.b :: (gf n ++ feet r)) := by simp [feet, foot]
  have hf' : feet (l ++ { n with kids := ks, ka := ka, kc := kc } :: r) = feet l ++ (n.b :: (gf { n with kids := ks, ka := ka, kc := kc } ++ feet r)) := by simp [feet, foot]
  have hbg : n.b ∉ gf n := by
    rw [hf] at hnd
    simp only [List.nodup_cons, List.nodup_append, List.mem_append, not_or] at hnd
    exact hnd.2.2.2.1.1.1
  have hMb : M' n.b = some (nodeObj n) := ow.le _ _ (by simp [PH.without, hbg]; exact hN.1)
  refine ⟨hMb, ?_⟩
  -- the blocks of the new kids lie nowhere else
  have hg' : ∀ b ∈ gf { n with kids := ks, ka := ka, kc := kc }, b ∈ gf n ∨ M b = none := by
    intro b hb
    rcases ow with ⟨e, _⟩ | ⟨g, cur, e, h0, _⟩
    · simp [gf, e] at hb
    · simp only [gf, e, List.mem_singleton] at hb
      subst hb
      simp only [PH.without] at h0
      split at h0
      · left; assumption
      · right; exact h0
  have hold : ∀ b, b ∉ gf n → M b ≠ none → M' b = M b := by
    intro b hb hne
    cases hM : M b with
    | none => exact absurd hM hne
    | some o => exact ow.le _ _ (by simp [PH.without, hb]; exact hM)
  have hsome : ∀ b ∈ p :: bm :: feet (l ++ n :: r), M b ≠ none := by
    intro b hb'
    simp only [List.mem_cons] at hb'
    rcases hb' with rfl | rfl | hb'
    · rw [T.root]; simp
    · obtain ⟨es, clk, hb, _⟩ := T.map; rw [hb]; simp
    · obtain ⟨m, hm', hbn⟩ := List.mem_flatMap.1 hb'
      have := T.nodes m hm'
      simp only [foot, List.mem_cons] at hbn
      rcases hbn with rfl | hbn
      · rw [this.1]; simp
      · rcases this.2 with ⟨e, _⟩ | ⟨g, cur, e, hg, _⟩
        · simp [gf, e] at hbn
        · simp only [gf, e, List.mem_singleton] at hbn; subst hbn; rw [hg]; simp
  -- all other blocks of the tree are apart from the old kids
  have hparts := hnd
  rw [hf] at hparts
  have hperm : (p :: bm :: (feet l ++ (n.b :: (gf n ++ feet r)))).Perm (gf n ++ (p :: bm :: (feet l ++ (n.b :: feet r)))) := by
    have : (gf n ++ (p :: bm :: (feet l ++ (n.b :: feet r)))).Perm (p :: bm :: (gf n ++ (feet l ++ (n.b :: feet r)))) := by
      refine (List.perm_middle).trans (.cons _ ?_)
      exact List.perm_middle
    refine .trans (.cons _ (.cons _ ?_)) this.symm
    have h1 : (feet l ++ (n.b :: (gf n ++ feet r))).Perm (feet l ++ (gf n ++ (n.b :: feet r))) := .append_left _ List.perm_middle.symm
    refine h1.trans ?_
    rw [← List.append_assoc, ← List.append_assoc]
    exact .append_right _ List.perm_append_comm
  have hnd2 := (hperm.nodup_iff).1 hparts
  rw [List.nodup_append] at hnd2
  obtain ⟨_, hrest, hdis⟩ := hnd2
  have hrestmem : ∀ b ∈ p :: bm :: (feet l ++ (n.b :: feet r)), b ∉ gf n ∧ M b ≠ none := by
    intro b hb
    refine ⟨fun h => hdis b h b hb rfl, hsome b ?_⟩
    rw [hf]
    exact (hperm.symm.subset (List.mem_append_right _ hb))
  have hpermN : (p :: bm :: (feet l ++ (n.b :: (gf { n with kids := ks, ka := ka, kc := kc } ++ feet r)))).Perm (gf { n with kids := ks, ka := ka, kc := kc } ++ (p :: bm :: (feet l ++ (n.b :: feet r)))) := by
    generalize gf { n with kids := ks, ka := ka, kc := kc } = gg
    have : (gg ++ (p :: bm :: (feet l ++ (n.b :: feet r)))).Perm (p :: bm :: (gg ++ (feet l ++ (n.b :: feet r)))) := by
      refine (List.perm_middle).trans (.cons _ ?_)
      exact List.perm_middle
    refine .trans (.cons _ (.cons _ ?_)) this.symm
    have h1 : (feet l ++ (n.b :: (gg ++ feet r))).Perm (feet l ++ (gg ++ (n.b :: feet r))) := .append_left _ List.perm_middle.symm
    refine h1.trans ?_
    rw [← List.append_assoc, ← List.append_assoc]
    exact .append_right _ List.perm_append_comm
  have hndN : (p :: bm :: feet (l ++ { n with kids := ks, ka := ka, kc := kc } :: r)).Nodup := by
    rw [hf', hpermN.nodup_iff, List.nodup_append]
    refine ⟨?_, hrest, fun a ha b hb e => ?_⟩
    · cases hk : ka <;> simp [gf]
    · subst e
      rcases hg' a ha with h | h
      · exact (hrestmem a hb).1 h
      · exact (hrestmem a hb).2 h
  have hp := hrestmem p (by simp)
  have hbm := hrestmem bm (by simp)
  have hne : ∀ b ∈ p :: bm :: (feet l ++ feet r), b ≠ n.b := by
    intro b hb e
    subst e
    have hq : (p :: bm :: (feet l ++ (n.b :: feet r))).Perm (n.b :: (p :: bm :: (feet l ++ feet r))) := by
      refine .trans (.cons _ (.cons _ List.perm_middle)) ?_
      refine .trans (.cons _ (.swap _ _ _)) (.swap _ _ _)
    have := (hq.nodup_iff).1 hrest
    exact (List.nodup_cons.1 this).1 hb
  refine ⟨⟨fun b hb => ?_, fun b hb => ?_⟩, hndN, ?_, ?_, fun m hm => ?_⟩
  · rw [hf'] at hb
    rcases List.mem_append.1 (hpermN.subset hb) with h | h
    · rcases hg' b h with h' | h'
      · exact T.lay.free b (by rw [hf]; exact hperm.symm.subset (List.mem_append_left _ h'))
      · exact none_of_le T.lay.le h'
    · exact T.lay.free b (by rw [hf]; exact hperm.symm.subset (List.mem_append_right _ h))
  · have hb1 : b ≠ n.b := fun e => hb (by subst e; simp [hf'])
    rw [PH.set_other _ _ hb1]
    have hb2 : b ∉ gf { n with kids := ks, ka := ka, kc := kc } := fun h => hb (by rw [hf']; exact hpermN.symm.subset (List.mem_append_left _ h))
    have hM'b : M' b = M.without (gf n) b := by
      rcases ow with ⟨_, _, _, e⟩ | ⟨g, cur, e, _, e', _⟩
      · rw [e]
      · rw [e', PH.set_other]
        intro h; subst h; exact hb2 (by simp [gf, e])
    rw [hM'b]
    simp only [PH.without]
    split
    · rename_i h
      exact (T.lay.free b (by rw [hf]; exact hperm.symm.subset (List.mem_append_left _ h))).symm
    · rename_i h
      refine T.lay.rest b fun h' => ?_
      rw [hf] at h'
      rcases List.mem_append.1 (hperm.subset h') with h'' | h''
      · exact h h''
      · exact hb (by rw [hf']; exact hpermN.symm.subset (List.mem_append_right _ h''))
  · rw [PH.set_other _ _ (hne p (by simp)), hold p hp.1 hp.2]; exact T.root
  · obtain ⟨es, clk, hb, hm⟩ := T.map
    refine ⟨es, clk, by rw [PH.set_other _ _ (hne bm (by simp)), hold bm hbm.1 hbm.2]; exact hb, ?_⟩
    have : ents (l ++ { n with kids := ks, ka := ka, kc := kc } :: r) = ents (l ++ n :: r) := by simp [ents]
    rw [this]; exact hm
  · rcases List.mem_append.1 hm with hm | hm
    · refine (T.nodes m (by simp [hm])).keep fun b hb => ?_
      have hfm : b ∈ feet l := feet_mem hm hb
      have := hrestmem b (by simp [hfm])
      rw [PH.set_other _ _ (hne b (by simp [hfm])), hold b this.1 this.2]
    · rcases List.mem_cons.1 hm with rfl | hm
      · refine ⟨PH.set_same _ _ _, ?_⟩
        rcases ow with ⟨h1, h2, h3, _⟩ | ⟨g, cur, h1, h0, h2, h3⟩
        · exact .inl ⟨h1, h2, h3⟩
        · refine .inr ⟨g, cur, h1, ?_, h3⟩
          have hgn : g ≠ n.b := fun e => by
            subst e
            simp [PH.without, hbg, hN.1] at h0
          rw [PH.set_other _ _ hgn, h2, PH.set_same]
      · refine (T.nodes m (by simp [hm])).keep fun b hb => ?_
        have hfm : b ∈ feet r := feet_mem hm hb
        have := hrestmem b (by simp [hfm])
        rw [PH.set_other _ _ (hne b (by simp [hfm])), hold b this.1 this.2]

theorem feet_filter (q : Nd → Bool) : ∀ (ns : List Nd), (feet ns).Nodup → (∀ b ∈ feet (ns.filter q), b ∈ feet ns) ∧ (feet (ns.filter q)).Nodup
  | [], _ => ⟨by simp [feet], by simp [feet]⟩
  | n :: r, h => by
    have hf : feet (n :: r) = foot n ++ feet r := by simp [feet]
    rw [hf] at h ⊢
    have h' := List.nodup_append.1 h
    obtain ⟨ih1, ih2⟩ := feet_filter q r h'.2.1
    by_cases hq : q n = true
    · rw [List.filter_cons_of_pos hq]
      have hf2 : feet (n :: r.filter q) = foot n ++ feet (r.filter q) := by simp [feet]
      rw [hf2]
      refine ⟨fun b hb => ?_, List.nodup_append.2 ⟨h'.1, ih2, fun a ha b hb => h'.2.2 a ha b (ih1 b hb)⟩⟩
      rcases List.mem_append.1 hb with hb | hb
      · exact List.mem_append_left _ hb
      · exact List.mem_append_right _ (ih1 b hb)
    · rw [List.filter_cons_of_neg hq]
      exact ⟨fun b hb => List.mem_append_right _ (ih1 b hb), ih2⟩

/-- A token is taken out of the map. -/
theorem TreeM.del (T : TreeM M0 M p bm ns last) {id : Int} {es' : Array MapEntry} {clk' : Nat} (hm : MapIs (.int .i64) intK es' clk' ((ents ns).filter fun q => q.1 ≠ id)) :
    ∃ M', PH.le M' (M.set bm (.map es' clk')) ∧ TreeM M0 M' p bm (ns.filter fun n => n.id ≠ id) last := by
  have hnd := T.nd
  obtain ⟨hsub, hsubnd⟩ := feet_filter (fun n => decide (n.id ≠ id)) ns (by simp only [List.nodup_cons] at hnd; exact hnd.2.2)
  have hF : ∀ b ∈ p :: bm :: feet (ns.filter fun n => n.id ≠ id), b ∈ p :: bm :: feet ns := by
    intro b hb
    simp only [List.mem_cons] at hb ⊢
    rcases hb with h | h | h
    · exact .inl h
    · exact .inr (.inl h)
    · exact .inr (.inr (hsub b h))
  have hpb : p ≠ bm := by simp only [List.nodup_cons, List.mem_cons, not_or] at hnd; exact hnd.1.1
  have hbf : bm ∉ feet ns := by simp only [List.nodup_cons] at hnd; exact hnd.2.1
  refine ⟨fun b => if b ∈ p :: bm :: feet (ns.filter fun n => n.id ≠ id) then (M.set bm (.map es' clk')) b else M0 b, fun b o e => ?_, ⟨fun b hb => T.lay.free b (hF b hb), fun b hb => if_neg hb⟩, ?_, ?_, ?_, fun n hn => ?_⟩
  · dsimp only at e
    split at e
    · exact e
    · rename_i h
      rw [PH.set_other _ _ (by rintro rfl; exact h (by simp))]
      exact T.lay.le b o e
  · simp only [List.nodup_cons, List.mem_cons, not_or] at hnd ⊢
    exact ⟨⟨hnd.1.1, fun h => hnd.1.2 (hsub _ h)⟩, fun h => hnd.2.1 (hsub _ h), hsubnd⟩
  · rw [if_pos (by simp), PH.set_other _ _ hpb]; exact T.root
  · refine ⟨es', clk', by rw [if_pos (by simp), PH.set_same], ?_⟩
    have e : ents (ns.filter fun n => n.id ≠ id) = (ents ns).filter fun q => q.1 ≠ id := by
      unfold ents; rw [List.filter_map]; rfl
    rw [e]; exact hm
  · have hn' := (List.mem_filter.1 hn).1
    refine (T.nodes n hn').keep fun b hb => ?_
    rw [if_pos (by simp only [List.mem_cons]; exact .inr (.inr (feet_mem hn hb))), PH.set_other _ _ (by rintro rfl; exact hbf (feet_mem hn' hb))]
end
end Go.Wk
namespace Go.Wk
open Go
theorem Ly.tree (p bm : Nat) (ns : List Nd) (last : Int) : Ly (fun M0 M => TreeM M0 M p bm ns last) := fun M0 M T => by
  refine ⟨p :: bm :: feet ns, T.lay, fun b hb => ?_, fun N0 N l hN => ⟨l, T.nd, by rw [hN p (by simp)]; exact T.root, ?_, fun n hn => (T.nodes n hn).keep fun b hb => hN b (by simp [feet_mem hn hb])⟩⟩
  · simp only [List.mem_cons] at hb
    rcases hb with rfl | rfl | hb
    · rw [T.root]; simp
    · obtain ⟨es, clk, h, _⟩ := T.map; rw [h]; simp
    · obtain ⟨n, hn, hb⟩ := List.mem_flatMap.1 hb
      have := T.nodes n hn
      simp only [foot, List.mem_cons] at hb
      rcases hb with rfl | hb
      · rw [this.1]; simp
      · rcases this.2 with ⟨e, _⟩ | ⟨g, cur, e, hg, _⟩
        · simp [gf, e] at hb
        · simp only [gf, e, List.mem_singleton] at hb; subst hb; rw [hg]; simp
  · obtain ⟨es, clk, h, hm⟩ := T.map
    exact ⟨es, clk, by rw [hN bm (by simp)]; exact h, hm⟩
end Go.Wk
