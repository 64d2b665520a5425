/-
  The calculus, fifth part: maps.
-/
import Derived.Test.YthlcldgcjilfcaaLib4
import Derived.MapKept
namespace Go.Wk
open Go Go.MapKept

section
variable {κ : Type}

/-- A map's entries read as l: keys by ke, values as they lie. -/
structure MapIs (d : TypeDesc) (ke : κ → Value) (es : Array MapEntry) (clk : Nat) (l : List (κ × Value)) : Prop where
  stamped : Stamped es clk
  reads : es.toList.map (fun e => (e.key, e.val)) = l.map (fun p => (ke p.1, p.2))
  isKey : ∀ k, IsKey d (ke k)
  inj : ∀ a b, ke a = ke b → a = b

variable {d : TypeDesc} {ke : κ → Value} {es : Array MapEntry} {clk : Nat} {l : List (κ × Value)}

theorem MapIs.size (h : MapIs d ke es clk l) : es.size = l.length := by
  have := congrArg List.length h.reads
  simpa using this
theorem MapIs.keys (h : MapIs d ke es clk l) : es.toList.map (·.key) = l.map (fun p => ke p.1) := by
  have := congrArg (List.map Prod.fst) h.reads
  simpa [List.map_map, Function.comp_def] using this
theorem MapIs.nodup (h : MapIs d ke es clk l) : (l.map (·.1)).Nodup := by
  have h3 := h.stamped.2.2
  rw [h.keys] at h3
  unfold List.Nodup at *
  rw [List.pairwise_map] at *
  exact h3.imp fun hne e => hne (by rw [e])
theorem MapIs.get (h : MapIs d ke es clk l) {j : Nat} {e : MapEntry} (he : es.toList[j]? = some e) : ∃ p, l[j]? = some p ∧ e.key = ke p.1 ∧ e.val = p.2 := by
  have := congrArg (fun x => x[j]?) h.reads
  simp only [List.getElem?_map, he, Option.map_some] at this
  cases hp : l[j]? with
  | none => simp [hp] at this
  | some p => simp [hp] at this; exact ⟨p, rfl, this.1, this.2⟩
theorem MapIs.allKeys (h : MapIs d ke es clk l) : ∀ x ∈ es.toList, IsKey d x.key := by
  intro x hx
  have : x.key ∈ es.toList.map (·.key) := List.mem_map.2 ⟨x, hx, rfl⟩
  rw [h.keys] at this
  obtain ⟨p, _, hp⟩ := List.mem_map.1 this
  rw [← hp]; exact h.isKey _

variable [DecidableEq κ]
theorem lookup_none {k : κ} (h : ∀ p ∈ l, p.1 ≠ k) : l.lookup k = none := by
  induction l with
  | nil => rfl
  | cons p r ih =>
    have h1 := h p (by simp)
    obtain ⟨pk, pv⟩ := p
    simp only [List.lookup_cons]
    rw [show (k == pk) = false by simpa using Ne.symm h1]
    exact ih fun q hq => h q (by simp [hq])
theorem lookup_some {k : κ} {v : Value} (hn : (l.map (·.1)).Nodup) (h : (k, v) ∈ l) : l.lookup k = some v := by
  induction l with
  | nil => cases h
  | cons p r ih =>
    simp only [List.map_cons, List.nodup_cons] at hn
    obtain ⟨pk, pv⟩ := p
    simp only [List.lookup_cons]
    cases h with
    | head => simp
    | tail _ hm =>
      have hne : k ≠ pk := fun e => hn.1 (by rw [← e]; exact List.mem_map.2 ⟨(k, v), hm, rfl⟩)
      rw [show (k == pk) = false by simpa using hne]
      exact ih hn.2 hm
theorem mem_of_lookup {k : κ} {v : Value} (h : l.lookup k = some v) : (k, v) ∈ l := by
  induction l with
  | nil => simp at h
  | cons p r ih =>
    obtain ⟨pk, pv⟩ := p
    simp only [List.lookup_cons] at h
    split at h
    · rename_i e
      have e' : k = pk := by simpa using e
      simp only [Option.some.injEq] at h
      subst h; subst e'
      simp
    · exact List.mem_cons_of_mem _ (ih h)

/-- Where a key is, or that it is not. -/
theorem MapIs.find (h : MapIs d ke es clk l) (k : κ) :
    (Instr.findNow d (ke k) es.toList 0 = some none ∧ l.lookup k = none ∧ (∀ p ∈ l, p.1 ≠ k) ∧ ∀ x ∈ es.toList, x.key ≠ ke k) ∨
    ∃ j e, Instr.findNow d (ke k) es.toList 0 = some (some (j, e.val)) ∧ es.toList[j]? = some e ∧ e.key = ke k ∧ l[j]? = some (k, e.val) ∧ l.lookup k = some e.val := by
  rcases findNow_spec (h.isKey k) es.toList 0 h.allKeys with ⟨h1, h2⟩ | ⟨j, e, h1, h2, h3⟩
  · have hp : ∀ p ∈ l, p.1 ≠ k := fun p hp e => by
      have : ke p.1 ∈ l.map (fun p => ke p.1) := List.mem_map.2 ⟨p, hp, rfl⟩
      rw [← h.keys] at this
      obtain ⟨x, hx, hk⟩ := List.mem_map.1 this
      exact h2 x hx (by rw [hk, e])
    exact .inl ⟨h1, lookup_none hp, hp, h2⟩
  · obtain ⟨p, hp, hk, hv⟩ := h.get h2
    have : p.1 = k := h.inj _ _ (hk.symm.trans h3)
    have hp' : l[j]? = some (k, e.val) := by rw [hp]; rw [← this, hv]
    exact .inr ⟨j, e, by simpa using h1, h2, h3, hp', lookup_some h.nodup (List.mem_of_getElem? hp')⟩

variable {P : Program} {w : World}

def mapT (P : Program) (t : TypeId) (d : TypeDesc) (z : Value) : Prop := ∃ kt et, P.underlying t = some (.map kt et) ∧ P.underlying kt = some d ∧ (P.info? et).bind (·.zero) = some z

theorem run_zero {et : TypeId} {z : Value} (h : (P.info? et).bind (·.zero) = some z) : (zeroValue et).run P w = .ok z w := by
  cases hi : P.info? et with
  | none => simp [hi] at h
  | some i => simp [hi] at h; simp [zeroValue, typeInfo, hi, h]

theorem run_lookup {t : TypeId} {z : Value} (ht : mapT P t d z) {b : Nat} (hb : PH.all w b = some (.map es clk)) (h : MapIs d ke es clk l) (k : κ) (ok : Bool) :
    (Instr.lookup t (.map (some b)) (ke k) ok).run P w = .ok (if ok then .tuple #[(l.lookup k).getD z, .bool (l.lookup k).isSome] else (l.lookup k).getD z) w := by
  obtain ⟨kt, et, h1, h2, h3⟩ := ht
  simp only [PH.all] at hb
  have hc := run_checkKey (P := P) (w := w) h2 (h.isKey k) es.isEmpty 9999
  unfold Instr.lookup
  simp only [Sem.run_bind, run_underlying h1, Result.andThen_ok, Go.MapKept.run_getObj_map (P := P) (w := w) hb, Sem.run_pure, hc]
  rcases h.find k with ⟨f1, f2, _⟩ | ⟨j, e, f1, _, _, _, f2⟩
  · simp only [run_findKey h2 f1, Result.andThen_ok, Sem.run_bind, run_zero h3, Sem.run_pure, f2]
    cases ok <;> rfl
  · simp only [run_findKey h2 f1, Result.andThen_ok, Sem.run_pure, f2]
    cases ok <;> rfl

theorem sameBits_self {d : TypeDesc} {a : Value} (h : IsKey d a) (n : Nat) : Instr.sameBits n a a = true := by
  cases d <;> cases a <;> simp_all [IsKey, Instr.sameBits]
  cases n <;> simp [Instr.sameBits, bytes_beq]

/-- An entry is put in. -/
def mput (l : List (κ × Value)) (k : κ) (v : Value) : List (κ × Value) := if (l.lookup k).isSome then l.map (fun p => if p.1 = k then (k, v) else p) else l ++ [(k, v)]

theorem run_mapUpdate {t : TypeId} {z : Value} (ht : mapT P t d z) {b : Nat} (hb : PH.all w b = some (.map es clk)) (h : MapIs d ke es clk l) (k : κ) (v : Value) :
    ∃ es' clk', (Instr.mapUpdate t (.map (some b)) (ke k) v).run P w = .ok () { w with heap := w.heap.setIfInBounds b (.map es' clk') } ∧ MapIs d ke es' clk' (mput l k v) := by
  obtain ⟨kt, et, h1, h2, h3⟩ := ht
  simp only [PH.all] at hb
  have hc := run_checkKey (P := P) (w := w) h2 (h.isKey k) false 9999
  unfold Instr.mapUpdate
  simp only [Sem.run_bind, run_underlying h1, Result.andThen_ok, Go.MapKept.run_getObj_map (P := P) (w := w) hb, hc]
  rcases h.find k with ⟨f1, f2, f3, f4⟩ | ⟨j, e, f1, g1, g2, g3, f2⟩
  · simp only [run_findKey h2 f1, Result.andThen_ok, Go.MapKept.run_setObj_map (P := P) (w := w) _ hb]
    refine ⟨_, _, rfl, stamped_push h.stamped f4, ?_, h.isKey, h.inj⟩
    simp [mput, f2, h.reads]
  · have hk : ((es[j]?).map (·.key)).getD (ke k) = ke k := by
      rw [← Array.getElem?_toList, g1]; simp [g2]
    simp only [run_findKey h2 f1, Result.andThen_ok, Sem.run_bind, hk, Instr.keyThatStays, sameBits_self (h.isKey k), if_true, Sem.run_pure, Go.MapKept.run_setObj_map (P := P) (w := w) _ hb]
    have g1' : es[j]? = some e := by rw [← Array.getElem?_toList]; exact g1
    refine ⟨_, _, rfl, stamped_modify h.stamped j _ (fun _ _ => rfl) (fun x _ hx => ?_), ?_, h.isKey, h.inj⟩
    · rw [g1'] at hx; cases hx; exact g2.symm
    · rw [show mput l k v = l.map (fun p => if p.1 = k then (k, v) else p) by simp [mput, f2]]
      apply List.ext_getElem?
      intro i
      have hi := congrArg (fun x => x[i]?) h.reads
      simp only [List.getElem?_map, Array.getElem?_toList, Array.getElem?_modify] at hi ⊢
      by_cases hij : j = i
      · subst hij
        rw [if_pos rfl, g1', g3]
        simp
      · rw [if_neg hij]
        cases hl : l[i]? with
        | none => rw [hl] at hi; simpa using hi
        | some p =>
          have hne : p.1 ≠ k := fun e' => by
            have hn := h.nodup
            obtain ⟨hlt, hl'⟩ := List.getElem?_eq_some_iff.1 hl
            obtain ⟨hltj, hj'⟩ := List.getElem?_eq_some_iff.1 g3
            rcases Nat.lt_or_ge i j with q | q
            · exact List.pairwise_iff_getElem.1 hn i j (by simpa using hlt) (by simpa using hltj) q (by simp [hl', hj', e'])
            · exact List.pairwise_iff_getElem.1 hn j i (by simpa using hltj) (by simpa using hlt) (by omega) (by simp [hl', hj', e'])
          rw [hl] at hi
          simp only [Option.map_some, if_neg hne] at hi ⊢
          exact hi

theorem run_delete {t : TypeId} {z : Value} (ht : mapT P t d z) {ty kt' : TypeId} {b : Nat} (hb : PH.all w b = some (.map es clk)) (h : MapIs d ke es clk l) (k : κ) :
    ∃ es' , (Builtin.delete_ #[t, kt'] ty #[.map (some b), ke k]).run P w = .ok (.tuple #[]) { w with heap := w.heap.setIfInBounds b (.map es' clk) } ∧ MapIs d ke es' clk (l.filter fun p => p.1 ≠ k) := by
  obtain ⟨kt, et, h1, h2, h3⟩ := ht
  simp only [PH.all] at hb
  have hc := run_checkKey (P := P) (w := w) h2 (h.isKey k) es.isEmpty 9999
  have hs : (#[t, kt'] : Array TypeId)[0]? = some t := rfl
  rcases h.find k with ⟨f1, f2, f3, f4⟩ | ⟨j, e, f1, g1, g2, g3, f2⟩
  · refine ⟨es, ?_, ?_⟩
    · simp [Builtin.delete_, run_underlying h1, Go.MapKept.run_getObj_map (P := P) (w := w) hb, hc, run_findKey h2 f1, Go.MapKept.run_setObj_map (P := P) (w := w) _ hb]
    · rw [List.filter_eq_self.2 (fun p hp => by simpa using f3 p hp)]; exact h
  · refine ⟨es.eraseIdxIfInBounds j, ?_, ⟨stamped_erase h.stamped j, ?_, h.isKey, h.inj⟩⟩
    · simp [Builtin.delete_, run_underlying h1, Go.MapKept.run_getObj_map (P := P) (w := w) hb, hc, run_findKey h2 f1, Go.MapKept.run_setObj_map (P := P) (w := w) _ hb]
    · have hlt : j < l.length := (List.getElem?_eq_some_iff.1 g3).1
      have hf : (l.filter fun p => p.1 ≠ k) = l.eraseIdx j := by
        have hn := h.nodup
        clear h g1 g2 f1 f2 hc
        induction l generalizing j with
        | nil => simp at hlt
        | cons p r ih =>
          simp only [List.map_cons, List.nodup_cons] at hn
          cases j with
          | zero =>
            simp only [List.getElem?_cons_zero, Option.some.injEq] at g3
            subst g3
            simp only [List.eraseIdx_cons_zero]
            rw [List.filter_cons_of_neg (by simp)]
            refine List.filter_eq_self.2 (fun q hq => ?_)
            simp only [ne_eq, decide_not, Bool.not_eq_true', decide_eq_false_iff_not]
            exact fun e' => hn.1 (by rw [← e']; exact List.mem_map.2 ⟨q, hq, rfl⟩)
          | succ j =>
            simp only [List.getElem?_cons_succ] at g3
            have hpk : p.1 ≠ k := fun e' => hn.1 (by rw [e']; exact List.mem_map.2 ⟨_, List.mem_of_getElem? g3, rfl⟩)
            rw [List.filter_cons_of_pos (by simpa using hpk), List.eraseIdx_cons_succ]
            rw [ih j g3 (by simpa using hlt) hn.2]
      rw [hf]
      have : (es.eraseIdxIfInBounds j).toList = es.toList.eraseIdx j := by
        have hsz : j < es.size := by rw [h.size]; exact hlt
        simp [Array.eraseIdxIfInBounds, hsz]
      rw [this]
      apply List.ext_getElem?
      intro i
      have hi := fun m : Nat => congrArg (fun x => x[m]?) h.reads
      simp only [List.getElem?_map] at hi ⊢
      simp only [List.getElem?_eraseIdx]
      split
      · exact hi i
      · exact hi (i + 1)

omit [DecidableEq κ] in
theorem run_lenMap {t ty kt et : TypeId} (ht : P.underlying t = some (.map kt et)) {b : Nat} (hb : PH.all w b = some (.map es clk)) (h : MapIs d ke es clk l) :
    (Builtin.len_ #[t] ty #[.map (some b)]).run P w = .ok (.int .i64 (l.length : Int)) w := by
  simp only [PH.all] at hb
  simp [Builtin.len_, run_underlying ht, Go.MapKept.run_getObj_map (P := P) (w := w) hb, goInt, h.size]
omit [DecidableEq κ] in
theorem MapIs.empty (hk : ∀ k, IsKey d (ke k)) (hi : ∀ a b, ke a = ke b → a = b) (clk : Nat) : MapIs d ke #[] clk ([] : List (κ × Value)) := ⟨stamped_empty clk, rfl, hk, hi⟩
end

def intK : Int → Value := fun k => .int .i64 k
def strK : ByteArray → Value := fun k => .string k
theorem intK_key : ∀ k, IsKey (.int .i64) (intK k) := fun _ => rfl
theorem intK_inj : ∀ a b, intK a = intK b → a = b := fun a b h => by simpa [intK] using h
theorem strK_key : ∀ k, IsKey .string (strK k) := fun _ => trivial
theorem strK_inj : ∀ a b, strK a = strK b → a = b := fun a b h => by simpa [strK] using h
end Go.Wk
