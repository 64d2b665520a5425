/-
  The calculus, fifteenth part: bytes of strings; parts of read-only slices.
-/
import Derived.Test.YthlcldgcjilfcaaLib14
import Derived.Laws.Strings
namespace Go.Wk
open Go

/-- A text's byte. -/
def byteAt (s : ByteArray) (i : Nat) : Nat := (s.data.toList.getD i 0).toNat
theorem byteAt_lt (s : ByteArray) (i : Nat) : byteAt s i < 256 := UInt8.toNat_lt _
theorem q_strIndex {P : Program} {env : Env} {o : Oper} {w : World} {x ix : Operand} {t : TypeId} {s : ByteArray} {k : IntKind} {i : Nat} (ho : o.op = .index t x ix) (ht : P.underlying t = some .string) (hx : ev env x = .string s) (hi : ev env ix = .int k (i : Int)) (hlt : i < s.size) :
    runs P env o w (.int .u8 (byteAt s i : Int)) w := by
  unfold runs
  simp only [execOp, ho]
  refine rv (w' := w) ?_
  rw [hx, hi, run_index_string (P := P) (w := w) t s k (i : Int) ht]
  have h1 : (0 : Int) ≤ (i : Int) ∧ (i : Int) < (s.size : Int) := by omega
  rw [dif_pos h1]
  congr 2
  unfold byteAt
  have h2 : i < s.data.size := hlt
  have e : s.data.toList.getD i 0 = s[i]'hlt := by
    rw [List.getD_eq_getElem?_getD, Array.getElem?_toList, Array.getElem?_eq_getElem h2]; rfl
  rw [e]
  simp

variable {S : Type} {E : Enc S}
theorem RS.upto {h : PH} {a : Option Addr} {xs : List S} (r : RS h E a xs) (i : Nat) : RS h E a (xs.take i) := r.take i
theorem RS.sub {h : PH} {a : Option Addr} {xs : List S} (r : RS h E a xs) {cap lo : Nat} (hlo : lo < xs.length) (hc : xs.length ≤ cap) : RS h E (Wk.aft a cap lo E.sz) [xs.getD lo E.dflt] := by
  have h1 := (r.aft (Nat.le_of_lt hlo) hc).take 1
  have e : (xs.drop lo).take 1 = [xs.getD lo E.dflt] := by
    have e2 : xs.getD lo E.dflt = xs[lo] := by simp [List.getD, hlo]
    rw [e2, List.drop_eq_getElem_cons hlo]; rfl
  rwa [e] at h1
end Go.Wk
