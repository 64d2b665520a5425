/-
  The calculus, ninth part: division; narrow integers.
-/
import Derived.Test.YthlcldgcjilfcaaLib8
namespace Go.Wk
open Go
section
variable {P : Program} {o : Oper} {env : Env} {w : World}
theorem wrap_u8 {x : Int} (h1 : 0 ≤ x) (h2 : x ≤ 255) : IntKind.u8.wrap x = x := IntWalk.u8_in x ⟨h1, h2⟩
theorem wrap_to_u8 {x y : Int} (e : x = y) (h1 : 0 ≤ y) (h2 : y ≤ 255) : IntKind.u8.wrap x = y := by subst e; exact wrap_u8 h1 h2
theorem wrap_u64 {x : Int} (h1 : 0 ≤ x) (h2 : x ≤ 18446744073709551615) : IntKind.u64.wrap x = x := IntWalk.u64_in x ⟨h1, h2⟩
theorem wrap_to_u64 {x y : Int} (e : x = y) (h1 : 0 ≤ y) (h2 : y ≤ 18446744073709551615) : IntKind.u64.wrap x = y := by subst e; exact wrap_u64 h1 h2
theorem wrap_i32 {x : Int} (h1 : -2147483648 ≤ x) (h2 : x ≤ 2147483647) : IntKind.i32.wrap x = x := IntWalk.i32_in x ⟨h1, h2⟩
theorem wrap_to_i32 {x y : Int} (e : x = y) (h1 : -2147483648 ≤ y) (h2 : y ≤ 2147483647) : IntKind.i32.wrap x = y := by subst e; exact wrap_i32 h1 h2
theorem q_rem {x y : Operand} {t t2 : TypeId} {k : IntKind} {n m : Nat} (ho : o.op = .binOp .rem t x y t2) (hx : ev env x = .int k (n : Int)) (hy : ev env y = .int k (m : Int)) (hm : 0 < m) :
    runs P env o w (.int k ((n % m : Nat) : Int)) w := by
  unfold runs
  simp only [execOp, ho]
  have h0 : ¬ ((m : Int) = 0) := by omega
  have e : ((n : Int).tmod (m : Int)) = ((n % m : Nat) : Int) := by rw [Int.tmod_eq_emod_of_nonneg (by omega)]; rfl
  refine rv (w' := w) ?_
  rw [hx, hy]
  have h1 : m ≠ 0 := by omega
  simp [binOp, eqGuard, Op.intDiv, h1, e]
theorem q_quo {x y : Operand} {t t2 : TypeId} {k : IntKind} {n m : Nat} (ho : o.op = .binOp .quo t x y t2) (hx : ev env x = .int k (n : Int)) (hy : ev env y = .int k (m : Int)) (hm : 0 < m)
    (hw : k.wrap ((n / m : Nat) : Int) = ((n / m : Nat) : Int)) : runs P env o w (.int k ((n / m : Nat) : Int)) w := by
  unfold runs
  simp only [execOp, ho]
  have h0 : ¬ ((m : Int) = 0) := by omega
  have e : ((n : Int).tdiv (m : Int)) = ((n / m : Nat) : Int) := by rw [Int.tdiv_eq_ediv_of_nonneg (by omega)]; rfl
  refine rv (w' := w) ?_
  rw [hx, hy]
  have hr : (Op.intDiv .quo k (n : Int) (m : Int)).run P w = .ok (.int k ((n / m : Nat) : Int)) w := by
    unfold Op.intDiv
    rw [if_neg h0, e, hw]; rfl
  simpa [binOp, eqGuard] using hr
end
end Go.Wk
