/-
  Values and facts: plain data.
-/
import Derived.Test.YtaepnhapggdceaaDoorLib12
import Derived.Test.YtaepnhapggdceaaDoorSl
namespace Go.Wk
open Go

structure Val where
  k : Int
  i : Int
  s : ByteArray
deriving DecidableEq
def valE : Enc Val := ⟨3, fun t => [.int .i64 t.k, .int .i64 t.i, .string t.s], ⟨0, 0, ByteArray.mk #[]⟩, by decide, fun _ => rfl, fun _ v hv => by
  simp only [List.mem_cons, List.not_mem_nil, or_false] at hv; rcases hv with rfl | rfl | rfl <;> rfl⟩
/-- A fact: 'a', 'c': where its values stand. -/
structure FactD where
  id : Int
  t : ByteArray
  a : Option Addr
  vals : List Val
  c : Nat
def factE : Enc FactD := ⟨3, fun f => [.int .i64 f.id, .string f.t, .slice f.a f.vals.length f.c], ⟨0, ByteArray.mk #[], none, [], 0⟩, by decide, fun _ => rfl, fun _ v hv => by
  simp only [List.mem_cons, List.not_mem_nil, or_false] at hv; rcases hv with rfl | rfl | rfl <;> rfl⟩
/-- Its values stand there. -/
def factG (h : PH) (f : FactD) : Prop := RS h valE f.a f.vals
theorem factG.mono {h h' : PH} (hl : PH.le h h') (f : FactD) (g : factG h f) : factG h' f := RS.mono g hl

def sameV (a b : Val) : Bool := (a.k == b.k) && (a.i == b.i) && sameS a.s b.s
theorem sameV_iff {a b : Val} : sameV a b = true ↔ a = b := by
  unfold sameV
  simp only [Bool.and_eq_true, beq_iff_eq, sameS_iff]
  cases a; cases b; simp [and_assoc]
theorem sameV_no {a b : Val} (h : a.k ≠ b.k ∨ a.i ≠ b.i) : sameV a b = false := by
  unfold sameV
  rcases h with h | h <;> simp [h]
theorem sameV_s {a b : Val} (h1 : a.k = b.k) (h2 : a.i = b.i) : Value.bool (sameS a.s b.s) = .bool (sameV a b) := by
  unfold sameV; simp [h1, h2]
def rowsV (xs ys : List Val) : Bool := decide (xs = ys)
theorem rowsV_t {xs ys : List Val} (hl : xs.length = ys.length) (h : ∀ j < xs.length, sameV (xs.getD j valE.dflt) (ys.getD j valE.dflt) = true) : rowsV xs ys = true := by
  refine decide_eq_true (List.ext_getElem hl fun j h1 h2 => ?_)
  have := sameV_iff.1 (h j h1)
  simpa [List.getD, h1, h2] using this
theorem rowsV_f {xs ys : List Val} (h : xs.length ≠ ys.length ∨ ∃ k, k < xs.length ∧ sameV (xs.getD k valE.dflt) (ys.getD k valE.dflt) = false) : rowsV xs ys = false := by
  refine decide_eq_false fun e => ?_
  subst e
  rcases h with h | ⟨k, hk, h⟩
  · exact h rfl
  · rw [sameV_iff.2 rfl] at h; cases h
end Go.Wk
