/-
  The calculus, seventeenth part: one cell of an element of an own slice is written.
-/
import Derived.Test.YthlcldgcjilfcaaLib16
namespace Go.Wk
open Go
section
variable {P : Program} {o : Oper} {env : Env} {w : World} {K : Key} {h M M0 : PH}
theorem q_storeF {S : Type} {E : Enc S} {x y : Operand} {t : TypeId} {v : Value} {e : TypeId} {a : Option Addr} {cap : Nat} {xs : List S} {i : Nat} (off : Nat) (s : S) (G : Wld K w h M) (ow : Own e E M0 M a cap xs) (hi : i < xs.length) (hoff : off < E.sz)
    (ho : o.op = .store t x y) (ht : sizeT P t 1 = true) (hx : ev env x = eptr a (i * E.sz + off)) (hy : ev env y = v) (hv : v.cells.toList = [v]) (h1 : v.oneCell' = true) (hs : E.enc s = (E.enc (xs.getD i E.dflt)).set off v) :
    DoesU P env o w fun w' => ∃ M', Wld K w' h M' ∧ Own e E M0 M' a cap (xs.set i s) := by
  have rd := ow.reads
  obtain ⟨g, cs, rfl, hb, hsz, ow'⟩ := ow.set hi s
  have hin : i * E.sz + off + 1 ≤ cs.size := by omega
  have hr := q_store (P := P) (o := o) (env := env) (w := w) (vs := [v]) (b := g) (off := i * E.sz + off) ho (by simpa using ht) (hx.trans (by simp [eptr])) hy hv (by simpa using h1) (G.own _ _ hb) (by simpa using hin)
  have G' := G.setRow (cs.toList.take (i * E.sz + off) ++ [v] ++ cs.toList.drop (i * E.sz + off + 1)).toArray hb
  have hold : ∀ j, j < E.sz → cs.toList[i * E.sz + j]? = (E.enc (xs.getD i E.dflt))[j]? := by
    obtain ⟨b, o2, cs2, t2, fr2, ha, hb2, hc⟩ := rd.at hi
    simp only [Option.some.injEq, Addr.mk.injEq, and_true] at ha
    obtain ⟨rfl, rfl⟩ := ha
    rw [hb] at hb2
    simp only [Option.some.injEq, Obj.cells.injEq] at hb2
    obtain ⟨rfl, _⟩ := hb2
    intro j hj
    have hl : j < (E.enc (xs.getD i E.dflt)).length := by rw [E.len]; exact hj
    have := hc j _ hj (List.getElem?_eq_getElem hl)
    rw [List.getElem?_eq_getElem hl]
    simpa using this
  have he : cs.toList.take (i * E.sz + off) ++ [v] ++ cs.toList.drop (i * E.sz + off + 1) = cs.toList.take (i * E.sz) ++ E.enc s ++ cs.toList.drop (i * E.sz + (E.enc s).length) := by
    have hlen : cs.toList.length = cs.size := Array.length_toList
    have hes : (E.enc s).length = E.sz := E.len s
    apply List.ext_getElem?
    intro j
    rw [hes]
    rcases Nat.lt_or_ge j (i * E.sz + off) with q | q
    · rw [List.append_assoc, List.getElem?_append_left (by rw [List.length_take]; omega), List.getElem?_take, if_pos q]
      rcases Nat.lt_or_ge j (i * E.sz) with q2 | q2
      · rw [List.append_assoc, List.getElem?_append_left (by rw [List.length_take]; omega), List.getElem?_take, if_pos q2]
      · have ej : j = i * E.sz + (j - i * E.sz) := by omega
        rw [List.getElem?_append_left (by rw [List.length_append, List.length_take, hes]; omega), List.getElem?_append_right (by rw [List.length_take]; omega), List.length_take, hs, Nat.min_eq_left (by omega), List.getElem?_set, if_neg (by omega)]
        conv => lhs; rw [ej]
        exact hold _ (by omega)
    · rcases Nat.eq_or_lt_of_le q with q1 | q1
      · subst q1
        rw [List.append_assoc, List.getElem?_append_right (by rw [List.length_take]; omega), List.length_take, Nat.min_eq_left (by omega), Nat.sub_self]
        show some v = _
        rw [List.getElem?_append_left (by rw [List.length_append, List.length_take, hes]; omega), List.getElem?_append_right (by rw [List.length_take]; omega), List.length_take, hs, Nat.min_eq_left (by omega)]
        rw [Nat.add_sub_cancel_left, List.getElem?_set, if_pos rfl, if_pos (by rw [E.len]; exact hoff)]
      · rw [List.getElem?_append_right (by rw [List.length_append, List.length_take]; simp; omega), List.length_append, List.length_take, Nat.min_eq_left (by omega), List.getElem?_drop]
        simp only [List.length_cons, List.length_nil]
        rw [show i * E.sz + off + 1 + (j - (i * E.sz + off + (0 + 1))) = j by omega]
        rcases Nat.lt_or_ge j (i * E.sz + E.sz) with q2 | q2
        · have ej : j = i * E.sz + (j - i * E.sz) := by omega
          rw [List.getElem?_append_left (by rw [List.length_append, List.length_take, hes]; omega), List.getElem?_append_right (by rw [List.length_take]; omega), List.length_take, hs, Nat.min_eq_left (by omega), List.getElem?_set, if_neg (by omega)]
          conv => lhs; rw [ej]
          exact hold _ (by omega)
        · rw [List.getElem?_append_right (by rw [List.length_append, List.length_take, hes]; omega), List.length_append, List.length_take, hes, Nat.min_eq_left (by omega), List.getElem?_drop]
          congr 1; omega
  rw [he] at G'
  rw [E.len] at G'
  exact ⟨_, hr.trans (by rw [show i * E.sz + off + [v].length = i * E.sz + off + 1 from rfl, he, E.len]), _, G', ow'⟩
end
end Go.Wk
