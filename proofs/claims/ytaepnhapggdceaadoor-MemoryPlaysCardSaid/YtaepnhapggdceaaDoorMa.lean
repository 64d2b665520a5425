/-
  A memory by its plain row.
-/
import Derived.Test.YtaepnhapggdceaaDoorM9
namespace Go.Proofs
open Go Go.Wk

abbrev Dat := Int × ByteArray × List Val
def lookA (ds : List Dat) (t : ByteArray) (xs : List Val) : Option Int := (ds.find? fun d => sameS d.2.1 t && rowsV d.2.2 xs).map (·.1)
theorem lookA_dat (row : List FactD) (t : ByteArray) (xs : List Val) : lookA (row.map dat) t xs = (lookR row t xs).map (·.id) := by
  unfold lookA lookR
  rw [List.find?_map, Option.map_map]
  rfl
theorem lookA_none {ds : List Dat} {t : ByteArray} {xs : List Val} (h : ∀ d ∈ ds, ¬ (d.2.1 = t ∧ d.2.2 = xs)) : lookA ds t xs = none := by
  unfold lookA
  rw [List.find?_eq_none.2 fun d hd hq => ?_]
  · rfl
  · simp only [Bool.and_eq_true, sameS_iff, rowsV, decide_eq_true_eq] at hq
    exact h d hd hq
theorem lookA_no {ds : List Dat} {t : ByteArray} {xs : List Val} (h : lookA ds t xs = none) : ∀ d ∈ ds, ¬ (d.2.1 = t ∧ d.2.2 = xs) := by
  intro d hd hq
  unfold lookA at h
  rw [Option.map_eq_none_iff] at h
  have := List.find?_eq_none.1 h d hd
  simp [hq.1, hq.2, sameS_iff.2 rfl, rowsV] at this
theorem lookA_some {ds : List Dat} {t : ByteArray} {xs : List Val} {id : Int} (h : lookA ds t xs = some id) : (id, t, xs) ∈ ds := by
  unfold lookA at h
  rw [Option.map_eq_some_iff] at h
  obtain ⟨d, h1, rfl⟩ := h
  have h2 := List.find?_some h1
  have h3 := List.mem_of_find?_eq_some h1
  simp only [Bool.and_eq_true, sameS_iff, rowsV, decide_eq_true_eq] at h2
  obtain ⟨a, b, c⟩ := d
  obtain ⟨rfl, rfl⟩ := h2
  exact h3
/-- Where no two facts are the same. -/
def Keys (ds : List Dat) : Prop := ds.Pairwise fun a b => ¬ (a.2.1 = b.2.1 ∧ a.2.2 = b.2.2)
theorem lookA_mem {ds : List Dat} (hk : Keys ds) {t : ByteArray} {xs : List Val} {id : Int} (h : (id, t, xs) ∈ ds) : lookA ds t xs = some id := by
  cases hl : lookA ds t xs with
  | none => exact absurd ⟨rfl, rfl⟩ (lookA_no hl _ h)
  | some i =>
    have h2 := lookA_some hl
    obtain ⟨a, ha, e1⟩ := List.getElem_of_mem h
    obtain ⟨b, hb, e2⟩ := List.getElem_of_mem h2
    rcases Nat.lt_trichotomy a b with q | q | q
    · have := List.pairwise_iff_getElem.1 hk a b ha hb q
      rw [e1, e2] at this; exact absurd ⟨rfl, rfl⟩ this
    · subst q; rw [e1] at e2; simp only [Prod.mk.injEq, and_true] at e2; rw [e2]
    · have := List.pairwise_iff_getElem.1 hk b a hb ha q
      rw [e1, e2] at this; exact absurd ⟨rfl, rfl⟩ this

def MemA (h : PH) (p : Nat) (ds : List Dat) (next : Int) : PH → PH → Prop := fun M0 M => ∃ row, MemL h p row next M0 M ∧ RowOk row next ∧ row.map dat = ds
theorem MemA.mono {h h' : PH} (hl : PH.le h h') {p : Nat} {ds : List Dat} {next : Int} {M0 M : PH} (A : MemA h p ds next M0 M) : MemA h' p ds next M0 M := by
  obtain ⟨row, A, R, e⟩ := A
  exact ⟨row, A.mono hl, R, e⟩
theorem Ly.memA (h : PH) (p : Nat) (ds : List Dat) (next : Int) : Ly (MemA h p ds next) := Ly.exists fun _ => Ly.and (Ly.memL _ _ _ _)
/-- What is known of a row. -/
structure DatOk (ds : List Dat) (next : Int) : Prop where
  up : ds.Pairwise fun a b => a.1 < b.1
  lo : ∀ d ∈ ds, 1 ≤ d.1 ∧ d.1 < next
  keys : Keys ds
  ok : ∀ d ∈ ds, FactOk d.2.1 d.2.2
  len : ds.length ≤ 1000
  nx : 1 ≤ next ∧ next ≤ 1000000000
theorem MemA.ok {h : PH} {p : Nat} {ds : List Dat} {next : Int} {M0 M : PH} (A : MemA h p ds next M0 M) : DatOk ds next := by
  obtain ⟨row, A, R, rfl⟩ := A
  refine ⟨List.pairwise_map.2 R.up, fun d hd => ?_, ?_, fun d hd => ?_, by simpa using R.len, R.nx⟩
  · obtain ⟨f, hf, rfl⟩ := List.mem_map.1 hd; exact R.lo f hf
  · refine List.pairwise_map.2 (R.keys.imp fun {a b} hne hq => hne ?_)
    simp only [dat] at hq
    simp [keyD, hq.1, hq.2]
  · obtain ⟨f, hf, rfl⟩ := List.mem_map.1 hd; exact R.ok f hf

section
variable {K : Key} {w : World} {h M0 M Mt : PH} {p : Nat} {ds : List Dat} {next : Int}
theorem newA (G : Wld K w h M) : Calls Tryd.prog 8 #[] w (RetM K h fun h' M' v => ∃ p, v = .pointer (some ⟨p, 0, none⟩) ∧ MemA h' p [] 1 M M') :=
  (new_spec G).mono (RetM.mono fun h' M' v hl ⟨p, hv, A⟩ => ⟨p, hv, [], A, RowOk.nil, rfl⟩)
theorem lenA (G : Wld K w h M) (A : MemA h p ds next M0 Mt) (hM : PH.le Mt M) : Calls Tryd.prog 12 #[.pointer (some ⟨p, 0, none⟩)] w (Ret K h M fun _ v => v = .int .i64 (ds.length : Nat)) := by
  obtain ⟨row, A, R, rfl⟩ := A
  rw [List.length_map]; exact len_spec G A hM
theorem nextA (G : Wld K w h M) (A : MemA h p ds next M0 Mt) (hM : PH.le Mt M) : Calls Tryd.prog 17 #[.pointer (some ⟨p, 0, none⟩)] w (Ret K h M fun _ v => v = .int .i64 next) := by
  obtain ⟨row, A, R, rfl⟩ := A
  exact next_spec G A hM
theorem findA (G : Wld K w h M) (A : MemA h p ds next M0 Mt) (hM : PH.le Mt M) (T : Tab Tryd.prog h) {t : ByteArray} {a : Option Addr} {xs : List Val} {c : Nat} (Hx : RS h valE a xs) (hok : FactOk t xs) :
    Calls Tryd.prog 20 #[.pointer (some ⟨p, 0, none⟩), .string t, .slice a xs.length c] w (Ret K h M fun _ v => v = .tuple #[.int .i64 ((lookA ds t xs).getD 0), .bool (lookA ds t xs).isSome]) := by
  obtain ⟨row, A, R, rfl⟩ := A
  rw [lookA_dat]
  cases hl : lookR row t xs with
  | none => exact find_no G A hM T Hx hok hl
  | some f => exact find_yes G A hM T Hx hok hl
theorem assertA_yes (G : Wld K w h M) (A : MemA h p ds next M0 M) (T : Tab Tryd.prog h) {t : ByteArray} {a : Option Addr} {xs : List Val} {c : Nat} (Hx : RS h valE a xs) (hok : FactOk t xs) {id : Int} (hl : lookA ds t xs = some id) :
    Calls Tryd.prog 9 #[.pointer (some ⟨p, 0, none⟩), .string t, .slice a xs.length c] w (Ret K h M fun _ v => v = .tuple #[.int .i64 id, .bool false, .int .i64 0]) := by
  obtain ⟨row, A, R, rfl⟩ := A
  rw [lookA_dat, Option.map_eq_some_iff] at hl
  obtain ⟨f, hf, rfl⟩ := hl
  exact assert_yes G A T Hx hok hf
theorem assertA_full (G : Wld K w h M) (A : MemA h p ds next M0 M) (T : Tab Tryd.prog h) {t : ByteArray} {a : Option Addr} {xs : List Val} {c : Nat} (Hx : RS h valE a xs) (hok : FactOk t xs) (hl : lookA ds t xs = none) (hf : 1000 ≤ ds.length) :
    Calls Tryd.prog 9 #[.pointer (some ⟨p, 0, none⟩), .string t, .slice a xs.length c] w (Ret K h M fun _ v => v = .tuple #[.int .i64 0, .bool false, .int .i64 10]) := by
  obtain ⟨row, A, R, rfl⟩ := A
  rw [lookA_dat, Option.map_eq_none_iff] at hl
  exact assert_full G A T Hx hok hl (by simpa using hf)
theorem assertA_new (G : Wld K w h M) (A : MemA h p ds next M0 M) (T : Tab Tryd.prog h) {t : ByteArray} {a : Option Addr} {xs : List Val} {c : Nat} (Hx : RS h valE a xs) (hok : FactOk t xs) (hl : lookA ds t xs = none) (hf : ds.length < 1000) (hn : next < 1000000000) :
    Calls Tryd.prog 9 #[.pointer (some ⟨p, 0, none⟩), .string t, .slice a xs.length c] w (RetM K h fun h' M' v => v = .tuple #[.int .i64 next, .bool true, .int .i64 0] ∧ MemA h' p (ds ++ [(next, t, xs)]) (next + 1) M0 M') := by
  obtain ⟨row, A, R, rfl⟩ := A
  rw [lookA_dat, Option.map_eq_none_iff] at hl
  exact (assert_new G A T Hx hok R hl (by simpa using hf) hn).mono (RetM.mono fun h' M' v hl ⟨a', c', hv, A', R'⟩ => ⟨hv, _, A', R', by simp [dat]⟩)
theorem retractA (G : Wld K w h M) (A : MemA h p ds next M0 M) (T : Tab Tryd.prog h) (id : Int) :
    Calls Tryd.prog 11 #[.pointer (some ⟨p, 0, none⟩), .int .i64 id] w (RetM K h fun h' M' v => v = .bool (ds.any fun d => d.1 == id) ∧ MemA h' p (ds.filter fun d => d.1 ≠ id) next M0 M') := by
  obtain ⟨row, A, R, rfl⟩ := A
  refine (retract_spec G A T R id).mono (RetM.mono fun h' M' v hl ⟨hv, A'⟩ => ⟨by rw [hv, List.any_map]; rfl, _, A', ?_, by rw [List.filter_map]; rfl⟩)
  have s : (row.filter fun f => f.id ≠ id).Sublist row := List.filter_sublist
  exact ⟨R.up.sublist s, fun f hf => R.lo f (s.subset hf), R.keys.sublist s, fun f hf => R.ok f (s.subset hf), Nat.le_trans s.length_le R.len, R.nx⟩
theorem getA (G : Wld K w h M) (A : MemA h p ds next M0 Mt) (hM : PH.le Mt M) (id : Int) :
    Calls Tryd.prog 22 #[.pointer (some ⟨p, 0, none⟩), .int .i64 id] w (Ret K h M fun h' v => ∃ f found, v = .tuple #[.agg (factE.enc f).toArray, .bool found] ∧
      (found = true → dat f ∈ ds ∧ f.id = id ∧ factG h' f) ∧ (found = false → ∀ d ∈ ds, d.1 ≠ id)) := by
  obtain ⟨row, A, R, rfl⟩ := A
  refine (get_spec G A hM R id).mono fun e w' r => ?_
  obtain ⟨h', M', v, he, hl, G', hM', f, found, hv, h1, h2⟩ := r
  refine ⟨h', M', v, he, hl, G', hM', f, found, hv, fun hf => ?_, fun hf d hd => ?_⟩
  · obtain ⟨q, hq, e1, e2, g⟩ := h1 hf
    refine ⟨List.mem_map.2 ⟨q, hq, e2.symm⟩, ?_, g⟩
    rw [← e1]; exact congrArg (·.1) e2
  · obtain ⟨q, hq, rfl⟩ := List.mem_map.1 hd
    exact h2 hf q hq
theorem allA (G : Wld K w h M) (A : MemA h p ds next M0 Mt) (hM : PH.le Mt M) :
    Calls Tryd.prog 14 #[.pointer (some ⟨p, 0, none⟩)] w (Ret K h M fun h' v => ∃ a fs, v = .slice a fs.length fs.length ∧ RS h' factE a fs ∧ (∀ f ∈ fs, factG h' f) ∧ fs.map dat = ds) := by
  obtain ⟨row, A, R, rfl⟩ := A
  exact all_spec G A hM R
theorem allOA (G : Wld K w h M) (A : MemA h p ds next M0 Mt) (hM : PH.le Mt M) :
    Calls Tryd.prog 14 #[.pointer (some ⟨p, 0, none⟩)] w (RetM K h fun h' M' v => ∃ a c fs N, v = .slice a fs.length fs.length ∧ InnL fs M N ∧ Own 55 factE N M' a c fs ∧ fs.map dat = ds) := by
  obtain ⟨row, A, R, rfl⟩ := A
  exact allO_spec G A hM R
theorem ofA (G : Wld K w h M) (A : MemA h p ds next M0 Mt) (hM : PH.le Mt M) (t : ByteArray) :
    Calls Tryd.prog 16 #[.pointer (some ⟨p, 0, none⟩), .string t] w (Ret K h M fun h' v => ∃ a fs, v = .slice a fs.length fs.length ∧ RS h' factE a fs ∧ (∀ f ∈ fs, factG h' f) ∧ fs.map dat = ds.filter fun d => sameS d.2.1 t) := by
  obtain ⟨row, A, R, rfl⟩ := A
  refine (of_spec G A hM R t).mono fun e w' r => ?_
  obtain ⟨h', M', v, he, hl, G', hM', a, fs, hv, h1, h2, h3⟩ := r
  exact ⟨h', M', v, he, hl, G', hM', a, fs, hv, h1, h2, by rw [h3, List.filter_map]; rfl⟩
theorem twinA (G : Wld K w h M) (A : MemA h p ds next M0 Mt) (hM : PH.le Mt M) (T : Tab Tryd.prog h) :
    Calls Tryd.prog 21 #[.pointer (some ⟨p, 0, none⟩)] w (RetM K h fun h' M' v => ∃ p', v = .pointer (some ⟨p', 0, none⟩) ∧ MemA h' p' ds next M M') := by
  obtain ⟨row, A, R, rfl⟩ := A
  exact (twin_spec G A hM T R).mono (RetM.mono fun h' M' v hl ⟨p', fs, hv, A', hd, R'⟩ => ⟨p', hv, fs, A', R', hd⟩)
end
end Go.Proofs
