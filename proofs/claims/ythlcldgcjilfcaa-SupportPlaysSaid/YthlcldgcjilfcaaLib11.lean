/-
  The calculus, eleventh part: operations on strings; what package strings' Builder does; functions without a body.
-/
import Derived.Test.YthlcldgcjilfcaaLib10
import Derived.Laws.Externs
import Derived.LaidEqlPtr
namespace Go.Wk
open Go

section
variable {P : Program} {ops : Array Oper} {Q : Exit → Act → World → Prop} {o : Oper} {rest : List Oper} {n : Nat} {env : Env} {w w' : World} {K : Key} {h M : PH}

def ptrT (P : Program) (tp te : TypeId) : Bool := (match P.underlying tp with | some (.pointer e) => e == te | _ => false) && (P.info? te).isSome
theorem ptrT_spec {tp te : TypeId} (ht : ptrT P tp te = true) : P.underlying tp = some (.pointer te) ∧ ∃ j, P.info? te = some j := by
  unfold ptrT at ht
  simp only [Bool.and_eq_true] at ht
  obtain ⟨h1, h2⟩ := ht
  refine ⟨?_, Option.isSome_iff_exists.1 h2⟩
  cases hd : P.underlying tp with
  | none => rw [hd] at h1; simp at h1
  | some d => rw [hd] at h1; cases d <;> simp_all
/-- A pointer held against itself. -/
theorem q_neqSame {x y : Operand} {tp te tq : TypeId} {a : Addr} (ho : o.op = .binOp .neq tp x y tq) (ht : ptrT P tp te = true) (hx : ev env x = .pointer (some a)) (hy : ev env y = .pointer (some a)) :
    runs P env o w (.bool false) w := by
  obtain ⟨h1, j, h2⟩ := ptrT_spec ht
  unfold runs
  simp only [execOp, ho]
  refine rv (w' := w) ?_
  rw [hx, hy]
  have := Lib.run_neq_ptr_same (P := P) w a h1 h2
  simp [eqGuard, this]
/-- A string behind a string. -/
theorem q_strAdd {x y : Operand} {tp tq : TypeId} {s t : ByteArray} (ho : o.op = .binOp .add tp x y tq) (hx : ev env x = .string s) (hy : ev env y = .string t) (hl : s.size + t.size ≤ 9223372036854775807) :
    runs P env o w (.string (s ++ t)) w := by
  unfold runs
  simp only [execOp, ho]
  refine rv (w' := w) ?_
  rw [hx, hy]
  have e : IntKind.i64.max = 9223372036854775807 := by decide
  have hm : ¬ (((s.size + t.size : Nat) : Int) > IntKind.i64.max) := by rw [e]; omega
  have hr : (Op.stringOp .add s t).run P w = .ok (.string (s ++ t)) w := by
    unfold Op.stringOp
    simp only [if_neg hm]; rfl
  simpa [eqGuard, binOp] using hr
/-- A function that has no body: its entry answers at once. -/
theorem WL.extern {d : Nat} {f : FuncId} {fn : Func} {e : Array Value → Sem Value} {xs : Array Operand} {ts : Array TypeId} {args : Array Value} {v : Value}
    (hf : P.funcs[f]? = some fn) (hname : (fn.name == "runtime.NumGoroutine") = false) (hb : fn.body.isNone = true) (hn : Extern.findNext fn = none) (he : Extern.find fn = some e)
    (ho : o.op = .call { callee := .value (.func f), args := xs, argTypes := ts }) (ha : xs.map (ev env) = args) (hr : (e args).run P w = .ok v w)
    (hk : knowsOp n env o = true) (hd : o.dst = some d) (hg : wantedE ops env o = some true) (next : WL P ops Q rest n ((d, v) :: env) w) : WL P ops Q (o :: rest) n env w := by
  refine WL.val v hk hd hg ?_ next
  simp [execOp, ho, resolve, ev, invoke, ha, Deferred.ofValue, run_callFunc_extern hf hname hb hn he, hr]
def sizeNZ (P : Program) (t : TypeId) : Bool := match P.info? t with | some i => i.size != 0 | none => false
theorem shape_of {b : Nat} {cs : Array Value} {e : TypeId} {fr : Nat × Nat} (hb : PH.all w b = some (.cells cs e fr)) : w.shape? b = some (e, cs.size) := by
  simp only [PH.all] at hb
  simp [World.shape?, hb]
theorem q_toUnsafe {x : Operand} {src dst t e : TypeId} {b off : Nat} {cs : Array Value} {fr : Nat × Nat} (ho : o.op = .convert src dst x) (h1 : P.underlying src = some (.pointer t)) (h2 : P.underlying dst = some .unsafePointer)
    (h3 : sizeNZ P t = true) (hx : ev env x = .pointer (some ⟨b, off, none⟩)) (hb : PH.all w b = some (.cells cs e fr)) (hoff : off < cs.size) : runs P env o w (.pointer (some ⟨b, off, none⟩)) w := by
  unfold sizeNZ at h3
  cases hi : P.info? t with
  | none => rw [hi] at h3; simp at h3
  | some j =>
    rw [hi] at h3
    have hr := Lib.run_to_unsafe (P := P) w ⟨b, off, none⟩ h1 h2 hi (by simpa using h3) (shape_of hb) hoff
    unfold runs
    simp only [execOp, ho]
    exact rv (by rw [hx]; exact hr)
theorem q_fromUnsafe {x : Operand} {src dst u e : TypeId} {b off : Nat} {cs : Array Value} {fr : Nat × Nat} (ho : o.op = .convert src dst x) (h1 : P.underlying src = some .unsafePointer) (h2 : P.underlying dst = some (.pointer u))
    (h3 : (P.info? u).isSome = true) (hx : ev env x = .pointer (some ⟨b, off, none⟩)) (hb : PH.all w b = some (.cells cs e fr)) (hl : liesAt P P.depth e (cs.size / P.cellsOf e) off u 1 = true) : runs P env o w (.pointer (some ⟨b, off, none⟩)) w := by
  obtain ⟨j, hj⟩ := Option.isSome_iff_exists.1 h3
  have hr := Lib.run_from_unsafe (P := P) w ⟨b, off, none⟩ h1 h2 hj (shape_of hb) hl
  unfold runs
  simp only [execOp, ho]
  exact rv (by rw [hx]; exact hr)
end
end Go.Wk
