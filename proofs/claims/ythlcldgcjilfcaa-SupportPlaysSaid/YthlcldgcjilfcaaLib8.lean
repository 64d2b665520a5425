/-
  The calculus, eighth part: laid parts of memory in any order; a block that is read-only from the first.
-/
import Derived.Test.YthlcldgcjilfcaaLib7
namespace Go.Wk
open Go

/-- A relation between what lay there and what lies there now that speaks of its own blocks alone. -/
def Ly (A : PH → PH → Prop) : Prop := ∀ M0 M, A M0 M → ∃ F, Lay F M0 M ∧ (∀ b ∈ F, M b ≠ none) ∧ ∀ N0 N, Lay F N0 N → (∀ b ∈ F, N b = M b) → A N0 N

theorem Ly.le {A : PH → PH → Prop} (hA : Ly A) {M0 M : PH} (a : A M0 M) : PH.le M0 M := by
  obtain ⟨F, l, _⟩ := hA _ _ a; exact l.le
/-- Two laid parts change places. -/
theorem Ly.swap {A B : PH → PH → Prop} (hA : Ly A) (hB : Ly B) {M0 M1 M2 : PH} (a : A M0 M1) (b : B M1 M2) : ∃ N, B M0 N ∧ A N M2 := by
  obtain ⟨F, la, sa, ka⟩ := hA _ _ a
  obtain ⟨F', lb, sb, kb⟩ := hB _ _ b
  obtain ⟨h1, h2, h3, h4⟩ := la.swap lb sa
  exact ⟨_, kb _ _ h1 h3, ka _ _ h2 h4⟩
theorem Ly.own {S : Type} {E : Enc S} (t : TypeId) (a : Option Addr) (cap : Nat) (xs : List S) : Ly (fun M0 M => Own t E M0 M a cap xs) := fun _ _ o => o.lay
/-- One part upon the other. -/
def Star (A B : PH → PH → Prop) : PH → PH → Prop := fun M0 M => ∃ M1, A M0 M1 ∧ B M1 M
theorem Ly.star {A B : PH → PH → Prop} (hA : Ly A) (hB : Ly B) : Ly (Star A B) := by
  rintro M0 M ⟨M1, a, b⟩
  obtain ⟨F, la, sa, ka⟩ := hA _ _ a
  obtain ⟨F', lb, sb, kb⟩ := hB _ _ b
  have hd : ∀ b ∈ F', b ∉ F := fun b hb hf => sa b hf (lb.free b hb)
  refine ⟨F ++ F', ⟨fun b hb => ?_, fun b hb => ?_⟩, fun b hb => ?_, fun N0 N l hN => ?_⟩
  · rcases List.mem_append.1 hb with h | h
    · exact la.free b h
    · exact none_of_le la.le (lb.free b h)
  · rw [List.mem_append, not_or] at hb
    rw [lb.rest b hb.2, la.rest b hb.1]
  · rcases List.mem_append.1 hb with h | h
    · rw [lb.rest b fun h' => hd b h' h]; exact sa b h
    · exact sb b h
  · refine ⟨N.without F', ka _ _ ⟨fun b hb => l.free b (List.mem_append_left _ hb), fun b hb => ?_⟩ fun b hb => ?_, kb _ _ ⟨fun b hb => by simp [PH.without, hb], fun b hb => by simp [PH.without, hb]⟩ fun b hb => hN b (List.mem_append_right _ hb)⟩
    · simp only [PH.without]
      split
      · rename_i h; exact (l.free b (List.mem_append_right _ h)).symm
      · rename_i h; exact l.rest b (by rw [List.mem_append, not_or]; exact ⟨hb, h⟩)
    · have hn : b ∉ F' := fun h' => hd b h' hb
      simp only [PH.without, if_neg hn]
      rw [hN b (List.mem_append_left _ hb), lb.rest b hn]

/-- A block on top becomes read-only. -/
theorem Wld.frz {K : Key} {w : World} {h M : PH} {b : Nat} {o : Obj} (G : Wld K w h (M.set b o)) (hn : M b = none) : ∃ h', PH.le h h' ∧ Wld K w h' M ∧ h' b = some o := by
  obtain ⟨G', hl⟩ := G.freeze (PH.set_same M b o)
  rw [PH.del_set _ _ _ hn] at G'
  exact ⟨_, hl, G', PH.set_same _ _ _⟩

section
variable {P : Program} {ops : Array Oper} {Q : Exit → Act → World → Prop} {o : Oper} {rest : List Oper} {n : Nat} {env : Env} {w w' : World} {K : Key} {h M : PH}
/-- A new block that nobody will write. -/
theorem WL.newI {d : Nat} {ob : Obj} (G : Wld K w h M) (hk : knowsOp n env o = true) (hd : o.dst = some d) (hg : wantedE ops env o = some true) (mk : Nat → Value)
    (hr : ∀ u : World, (execOp (ev env) o).run P u = .ok (.value (mk u.heap.size)) (u.alloc ob))
    (next : ∀ b w', h b = none → Wld K w' (h.set b ob) M → WL P ops Q rest n ((d, mk b) :: env) w') : WL P ops Q (o :: rest) n env w :=
  WL.val _ hk hd hg (hr w) (next _ _ G.new.2 (G.allocI ob))
end
end Go.Wk
