/-
  Facts of three templates.
-/
import Derived.Test.YtaepnhapggdceaaDoorFu
namespace Go.Proofs
open Go Go.Wk

def pqr : List ByteArray := [⟨#[112]⟩, ⟨#[113]⟩, ⟨#[114]⟩]
def nm3 (k : Nat) : ByteArray := pqr.getD (k % 3) strE.dflt
theorem nm3_cases (k : Nat) : nm3 k = ⟨#[112]⟩ ∨ nm3 k = ⟨#[113]⟩ ∨ nm3 k = ⟨#[114]⟩ := by
  unfold nm3
  have : k % 3 < 3 := Nat.mod_lt _ (by decide)
  rcases (by omega : k % 3 = 0 ∨ k % 3 = 1 ∨ k % 3 = 2) with h | h | h <;> rw [h]
  · exact .inl rfl
  · exact .inr (.inl rfl)
  · exact .inr (.inr rfl)
theorem nm3_size (k : Nat) : (nm3 k).size ≤ 100 := by
  rcases nm3_cases k with h | h | h <;> rw [h] <;> decide
theorem ids_up {fs : List FactD} {ds : List Dat} {next : Int} (hd : fs.map dat = ds) (ok : DatOk ds next) : ∀ i j, i < j → j < fs.length → (fs.getD i factE.dflt).id < (fs.getD j factE.dflt).id := by
  intro i j hij hj
  have h1 := ok.up
  rw [← hd, List.pairwise_map] at h1
  have h2 := List.pairwise_iff_getElem.1 h1 i j (by omega) hj hij
  have e : ∀ q, (hq : q < fs.length) → fs.getD q factE.dflt = fs[q] := fun q hq => by simp [List.getD, hq]
  rw [e i (by omega), e j hj]; exact h2
theorem want_yes {fs : List FactD} {p : FactD → Bool} {k : Nat} (hk : k < fs.length) (h : p (fs.getD k factE.dflt) = true) :
    (fs.take k).filter p ++ [FactD.mk (fs.getD k factE.dflt).id (fs.getD k factE.dflt).t (fs.getD k factE.dflt).a (fs.getD k factE.dflt).vals (fs.getD k factE.dflt).c] = (fs.take (k + 1)).filter p := by
  have e : fs.getD k factE.dflt = fs[k] := by simp [List.getD, hk]
  rw [e] at h ⊢
  rw [List.take_succ_eq_append_getElem hk, List.filter_append, List.filter_cons_of_pos h]
  rfl
theorem want_no {fs : List FactD} {p : FactD → Bool} {k : Nat} (hk : k < fs.length) (h : p (fs.getD k factE.dflt) = false) : (fs.take k).filter p = (fs.take (k + 1)).filter p := by
  have e : fs.getD k factE.dflt = fs[k] := by simp [List.getD, hk]
  rw [List.take_succ_eq_append_getElem hk, List.filter_append, ← e, List.filter_cons_of_neg (by rw [h]; simp)]
  simp
theorem filter_dat (fs : List FactD) (t : ByteArray) : (fs.filter fun f => sameS f.t t).map dat = (fs.map dat).filter fun d => sameS d.2.1 t := by
  rw [List.filter_map]; rfl
theorem none_of3 {ds : List Dat} (h : ∀ d ∈ ds, ∃ k, d.2.1 = nm3 k) : (ds.filter fun d => sameS d.2.1 ⟨#[110, 111, 110, 101]⟩) = [] := by
  refine List.filter_eq_nil_iff.2 fun d hd hq => ?_
  obtain ⟨k, hk⟩ := h d hd
  rw [hk] at hq
  have := sameS_iff.1 hq
  rcases nm3_cases k with h | h | h <;> rw [h] at this <;> revert this <;> decide
theorem of3_push {ds ds' : List Dat} {n n' : Int} {k : Nat} {xs : List Val} (h : ∀ d ∈ ds, ∃ k, d.2.1 = nm3 k) (hor : ds' = ds ∧ n' = n ∨ ds' = ds ++ [(n, nm3 k, xs)] ∧ n' = n + 1) : ∀ d ∈ ds', ∃ k, d.2.1 = nm3 k := by
  rcases hor with ⟨rfl, _⟩ | ⟨rfl, _⟩
  · exact h
  · intro d hd
    rcases List.mem_append.1 hd with hd | hd
    · exact h d hd
    · rw [List.mem_singleton] at hd; subst hd; exact ⟨k, rfl⟩
end Go.Proofs
