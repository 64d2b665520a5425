/-
  Facts whose values are owned.
-/
import Derived.Test.YtaepnhapggdceaaDoorMl
namespace Go.Wk
open Go

abbrev factO : Enc FactD := factE
def dat (f : FactD) : Int × ByteArray × List Val := (f.id, f.t, f.vals)
/-- The values of facts, each in an array of its own. -/
def InnL : List FactD → PH → PH → Prop
  | [] => fun M0 M => M = M0
  | f :: r => Star (fun M0 M => ∃ k, Own 29 valE M0 M f.a k f.vals) (InnL r)
theorem Ly.refl : Ly (fun M0 M => M = M0) := by
  rintro M0 M rfl
  exact ⟨[], Lay.refl _, by simp, fun N0 N l _ => funext fun b => l.rest b (by simp)⟩
theorem Ly.innL : ∀ fs : List FactD, Ly (InnL fs)
  | [] => Ly.refl
  | f :: r => Ly.star (Ly.exists fun _ => Ly.own _ _ _ _) (Ly.innL r)
theorem InnL.push : ∀ {fs : List FactD} {f : FactD} {M0 M1 M : PH} {k : Nat}, InnL fs M0 M1 → Own 29 valE M1 M f.a k f.vals → InnL (fs ++ [f]) M0 M
  | [], f, M0, M1, M, k, h, o => by
    have h' : M1 = M0 := h
    subst h'
    exact ⟨M, ⟨k, o⟩, rfl⟩
  | g :: r, f, M0, M1, M, k, h, o => by
    obtain ⟨N, h1, h2⟩ := h
    exact ⟨N, h1, InnL.push h2 o⟩
theorem InnL.freeze : ∀ {fs : List FactD} {M0 M h : PH} {K : Key} {w : World}, InnL fs M0 M → Wld K w h M → ∃ h', PH.le h h' ∧ Wld K w h' M0 ∧ ∀ f ∈ fs, factG h' f
  | [], M0, M, h, K, w, hi, G => by
    have h' : M = M0 := hi
    subst h'
    exact ⟨h, PH.le_refl _, G, by simp⟩
  | f :: r, M0, M, h, K, w, hi, G => by
    obtain ⟨N, ⟨k, o⟩, h2⟩ := hi
    obtain ⟨h', l1, G1, g1⟩ := InnL.freeze h2 G
    obtain ⟨h'', l2, G2, r2⟩ := o.freeze G1
    refine ⟨h'', l1.trans l2, G2, fun x hx => ?_⟩
    rcases List.mem_cons.1 hx with rfl | hx
    · exact r2
    · exact factG.mono l2 _ (g1 x hx)
theorem map_dat_succ (row fs : List FactD) {k : Nat} (hk : k < row.length) {f : FactD} (h : fs.map dat = (row.take k).map dat) (hf : dat f = dat (row.getD k factE.dflt)) :
    (fs ++ [f]).map dat = (row.take (k + 1)).map dat := by
  have e : row.getD k factE.dflt = row[k] := by simp [List.getD, hk]
  rw [List.take_succ_eq_append_getElem hk, List.map_append, List.map_append, h, ← e]
  simp [hf]
theorem map_dat_filter (row fs : List FactD) (p : FactD → Bool) {k : Nat} (hk : k < row.length) {f : FactD} (h : fs.map dat = ((row.take k).filter p).map dat) (hp : p (row.getD k factE.dflt) = true) (hf : dat f = dat (row.getD k factE.dflt)) :
    (fs ++ [f]).map dat = ((row.take (k + 1)).filter p).map dat := by
  have e : row.getD k factE.dflt = row[k] := by simp [List.getD, hk]
  rw [List.take_succ_eq_append_getElem hk, List.filter_append, List.map_append, List.map_append, h, ← e, List.filter_cons_of_pos hp]
  simp [hf]
theorem map_dat_skip (row fs : List FactD) (p : FactD → Bool) {k : Nat} (hk : k < row.length) (h : fs.map dat = ((row.take k).filter p).map dat) (hp : p (row.getD k factE.dflt) = false) :
    fs.map dat = ((row.take (k + 1)).filter p).map dat := by
  have e : row.getD k factE.dflt = row[k] := by simp [List.getD, hk]
  rw [List.take_succ_eq_append_getElem hk, List.filter_append, ← e, List.filter_cons_of_neg (by rw [hp]; simp)]
  simpa using h
theorem mput_take {fs : List FactD} (hk : fs.Pairwise fun f g => keyD f ≠ keyD g) {k : Nat} (h : k < fs.length) :
    mput (ents (fs.take k)) (keyF (fs.getD k factE.dflt).t (fs.getD k factE.dflt).vals) (.int .i64 (fs.getD k factE.dflt).id) = ents (fs.take (k + 1)) := by
  have e : fs.getD k factE.dflt = fs[k] := by simp [List.getD, h]
  rw [e]
  have hn : @List.lookup ByteArray Value instBEqOfDecidableEq (keyF fs[k].t fs[k].vals) (ents (fs.take k)) = none := by
    have h1 := ents_look (fs.take k) fs[k].t fs[k].vals
    have h2 : lookR (fs.take k) fs[k].t fs[k].vals = none := by
      refine List.find?_eq_none.2 fun f hf hq => ?_
      obtain ⟨j, hj, rfl⟩ := List.getElem_of_mem hf
      rw [List.length_take] at hj
      have h3 := List.pairwise_iff_getElem.1 hk j k (by omega) h (by omega)
      rw [List.getElem_take] at hq
      exact h3 (same_key.1 hq)
    rw [h2] at h1; exact h1
  unfold mput
  rw [hn]
  rw [List.take_succ_eq_append_getElem h]
  unfold ents keyD
  rw [List.map_append]; rfl
theorem dat_len {a b : List FactD} (h : a.map dat = b.map dat) : a.length = b.length := by simpa using congrArg List.length h
theorem RowOk.dat {row fs : List FactD} {next : Int} (R : RowOk row next) (h : fs.map dat = row.map dat) : RowOk fs next := by
  have key : ∀ f ∈ fs, ∃ g ∈ row, g.id = f.id ∧ g.t = f.t ∧ g.vals = f.vals := fun f hf => by
    have : Wk.dat f ∈ fs.map Wk.dat := List.mem_map.2 ⟨f, hf, rfl⟩
    rw [h] at this
    obtain ⟨g, hg, e⟩ := List.mem_map.1 this
    simp only [Wk.dat, Prod.mk.injEq] at e
    exact ⟨g, hg, e⟩
  have pw : ∀ {q : Int × ByteArray × List Val → Int × ByteArray × List Val → Prop}, row.Pairwise (fun f g => q (Wk.dat f) (Wk.dat g)) → fs.Pairwise (fun f g => q (Wk.dat f) (Wk.dat g)) := fun hq => by
    rw [← List.pairwise_map] at hq ⊢; rw [h]; exact hq
  refine ⟨pw (q := fun a b => a.1 < b.1) R.up, fun f hf => ?_, pw (q := fun a b => keyF a.2.1 a.2.2 ≠ keyF b.2.1 b.2.2) R.keys, fun f hf => ?_, by rw [dat_len h]; exact R.len, R.nx⟩
  · obtain ⟨g, hg, e1, e2, e3⟩ := key f hf; rw [← e1]; exact R.lo g hg
  · obtain ⟨g, hg, e1, e2, e3⟩ := key f hf; rw [← e2, ← e3]; exact R.ok g hg
end Go.Wk
