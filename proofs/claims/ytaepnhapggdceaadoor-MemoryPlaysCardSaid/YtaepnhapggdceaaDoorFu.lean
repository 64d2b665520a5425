/-
  Rows of many facts.
-/
import Derived.Test.YtaepnhapggdceaaDoorL2
namespace Go.Proofs
open Go Go.Wk

def tB : ByteArray := ⟨#[116]⟩
def vI (n : Int) : Val := ⟨1, n, ⟨#[]⟩⟩
def fullD (k : Nat) : List Dat := (List.range k).map fun (j : Nat) => ((j : Int) + 1, tB, [vI ((j : Int) + 1)])
theorem fullD_len (k : Nat) : (fullD k).length = k := by simp [fullD]
theorem fullD_succ (k : Nat) : fullD k ++ [((k : Int) + 1, tB, [vI ((k : Int) + 1)])] = fullD (k + 1) := by simp [fullD, List.range_succ]
theorem full_none {k : Nat} {n : Int} (h : n < 1 ∨ n > k) : lookA (fullD k) tB [vI n] = none := by
  refine lookA_none fun d hd hq => ?_
  obtain ⟨j, hj, rfl⟩ := List.mem_map.1 hd
  have hj' := List.mem_range.1 hj
  have h2 := hq.2
  simp only [vI, List.cons.injEq, Val.mk.injEq, and_true, true_and] at h2
  omega
theorem full_mem {k : Nat} {n : Int} (h1 : 1 ≤ n) (h2 : n ≤ k) : (n, tB, [vI n]) ∈ fullD k :=
  List.mem_map.2 ⟨(n - 1).toNat, List.mem_range.2 (by omega), by rw [show (((n - 1).toNat : Nat) : Int) + 1 = n by omega]⟩
theorem len_filter {ds : List Dat} (hu : ds.Pairwise fun a b => a.1 < b.1) {d : Dat} (hd : d ∈ ds) : (ds.filter fun x => x.1 ≠ d.1).length + 1 = ds.length := by
  induction ds with
  | nil => cases hd
  | cons a r ih =>
    obtain ⟨h1, h2⟩ := List.pairwise_cons.1 hu
    rcases List.mem_cons.1 hd with rfl | hd
    · rw [List.filter_cons_of_neg (by simp)]
      rw [List.filter_eq_self.2 fun x hx => ?_]
      · rfl
      · have := h1 x hx; simp; omega
    · have := h1 d hd
      rw [List.filter_cons_of_pos (by simp; omega), List.length_cons, ih h2 hd, List.length_cons]
theorem any_mem {ds : List Dat} {d : Dat} (hd : d ∈ ds) : (ds.any fun x => x.1 == d.1) = true := List.any_eq_true.2 ⟨d, hd, by simp⟩
theorem any_mem' {ds : List Dat} {g : Int} {t : ByteArray} {xs : List Val} (hd : (g, t, xs) ∈ ds) : (ds.any fun (d : Dat) => d.1 == g) = true := any_mem hd
theorem len_filter' {ds : List Dat} (hu : ds.Pairwise fun a b => a.1 < b.1) {g : Int} {t : ByteArray} {xs : List Val} (hd : (g, t, xs) ∈ ds) : (ds.filter fun (d : Dat) => d.1 ≠ g).length + 1 = ds.length := len_filter hu hd
theorem filter_none_mem {ds : List Dat} {t : ByteArray} {xs : List Val} {g : Int} (h : lookA ds t xs = none) : lookA (ds.filter fun x => x.1 ≠ g) t xs = none :=
  lookA_none fun d hd => lookA_no h d (List.mem_filter.1 hd).1
section
variable {K : Key} {w : World} {h M0 M Mt : PH} {p : Nat} {ds : List Dat} {next : Int}
/-- A fact is put in, whatever comes of it. -/
theorem assertA_any (G : Wld K w h M) (A : MemA h p ds next M0 M) (T : Tab Tryd.prog h) {t : ByteArray} {a : Option Addr} {xs : List Val} {c : Nat} (Hx : RS h valE a xs) (hok : FactOk t xs) (hf : ds.length < 1000) (hn : next < 1000000000) :
    Calls Tryd.prog 9 #[.pointer (some ⟨p, 0, none⟩), .string t, .slice a xs.length c] w (RetM K h fun h' M' v => ∃ i b ds' nx', v = .tuple #[.int .i64 i, .bool b, .int .i64 0] ∧ MemA h' p ds' nx' M0 M' ∧
      (ds' = ds ∧ nx' = next ∨ ds' = ds ++ [(next, t, xs)] ∧ nx' = next + 1)) := by
  cases hl : lookA ds t xs with
  | some id =>
    refine (assertA_yes G A T (c := c) Hx hok hl).mono fun e w' r => ?_
    obtain ⟨h', M', v, he, hl, G', rfl, rfl⟩ := r
    exact ⟨h', _, _, he, hl, G', _, _, _, _, rfl, A.mono hl, .inl ⟨rfl, rfl⟩⟩
  | none => exact (assertA_new G A T Hx hok hl hf hn).mono (RetM.mono fun h' M' v hl ⟨hv, A'⟩ => ⟨_, _, _, _, hv, A', .inr ⟨rfl, rfl⟩⟩)
end
end Go.Proofs
