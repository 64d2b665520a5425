/-
  How a memory of facts lies; its row.
-/
import Derived.Test.YtaepnhapggdceaaDoorVl
import Derived.Lib.ItoaNum
import Derived.Lib.ItoaLen
import Derived.Lib.LaidTab
import Derived.Lib.ItoaMem
namespace Go.Wk
open Go

def cmpI (x y : Int) : Int := if x < y then -1 else if x > y then 1 else 0
theorem cmpI_lt {x y : Int} (h : x < y) : cmpI x y = -1 := by simp [cmpI, h]
theorem cmpI_gt {x y : Int} (h : x > y) : cmpI x y = 1 := by unfold cmpI; rw [if_neg (by omega), if_pos h]
theorem cmpI_eq {x y : Int} (h1 : ¬ x < y) (h2 : ¬ x > y) : cmpI x y = 0 := by unfold cmpI; rw [if_neg h1, if_neg h2]
theorem cmpI_neg {x y : Int} : cmpI x y < 0 ↔ x < y := by
  unfold cmpI; split
  · simp [*]
  · split <;> simp [*]
theorem cmpI_zero {x y : Int} : cmpI x y = 0 ↔ x = y := by
  unfold cmpI; split
  · simp; omega
  · split
    · simp; omega
    · simp; omega

/-- A number in digits, a value, values as a text. -/
def itoaB (n : Int) : ByteArray := ⟨(Lib.itoa n).toArray⟩
def itemF (v : Val) : ByteArray := itoaB v.k ++ ⟨#[32]⟩ ++ itoaB v.i ++ ⟨#[32]⟩ ++ itoaB v.s.size ++ ⟨#[58]⟩ ++ v.s
def hashL (l : List Val) : List UInt8 := l.flatMap fun v => (itemF v).data.toList
def hashF (l : List Val) : ByteArray := ⟨(hashL l).toArray⟩
def keyF (t : ByteArray) (l : List Val) : ByteArray := hashF (⟨3, 0, t⟩ :: l)
def keyD (f : FactD) : ByteArray := keyF f.t f.vals

def ValOk (v : Val) : Prop := (-9223372036854775808 ≤ v.k ∧ v.k ≤ 9223372036854775807) ∧ (-9223372036854775808 ≤ v.i ∧ v.i ≤ 9223372036854775807) ∧ v.s.size ≤ 1000000
def FactOk (t : ByteArray) (l : List Val) : Prop := t.size ≤ 1000000 ∧ l.length ≤ 100 ∧ ∀ v ∈ l, ValOk v

structure RowOk (row : List FactD) (next : Int) : Prop where
  up : row.Pairwise (fun f g => f.id < g.id)
  lo : ∀ f ∈ row, 1 ≤ f.id ∧ f.id < next
  keys : row.Pairwise (fun f g => keyD f ≠ keyD g)
  ok : ∀ f ∈ row, FactOk f.t f.vals
  len : row.length ≤ 1000
  nx : 1 ≤ next ∧ next ≤ 1000000000

def ents (row : List FactD) : List (ByteArray × Value) := row.map fun f => (keyD f, .int .i64 f.id)

/-- A memory at p. -/
def MemL (h : PH) (p : Nat) (row : List FactD) (next : Int) : PH → PH → Prop := fun M0 M => ∃ bm a c es clk M1 M2,
  Blk p (.cells #[.slice a row.length c, .map (some bm), .int .i64 next] 61 (0, 0)) M0 M1 ∧ Blk bm (.map es clk) M1 M2 ∧ Own 55 factE M2 M a c row ∧ MapIs .string strK es clk (ents row) ∧ ∀ f ∈ row, factG h f
theorem MemL.mono {h h' : PH} (hl : PH.le h h') {p : Nat} {row : List FactD} {next : Int} {M0 M : PH} (A : MemL h p row next M0 M) : MemL h' p row next M0 M := by
  obtain ⟨bm, a, c, es, clk, M1, M2, B1, B2, O, m, g⟩ := A
  exact ⟨bm, a, c, es, clk, M1, M2, B1, B2, O, m, all_up @factG.mono hl g⟩
theorem Ly.memL (h : PH) (p : Nat) (row : List FactD) (next : Int) : Ly (MemL h p row next) := by
  have hL : Ly (fun M0 M => ∃ bm a c es clk, (Star (Blk p (.cells #[.slice a row.length c, .map (some bm), .int .i64 next] 61 (0, 0))) (Star (Blk bm (.map es clk)) (fun M0 M => Own 55 factE M0 M a c row))) M0 M ∧ MapIs .string strK es clk (ents row) ∧ ∀ f ∈ row, factG h f) :=
    Ly.exists fun _ => Ly.exists fun _ => Ly.exists fun _ => Ly.exists fun _ => Ly.exists fun _ => Ly.and (Ly.star (Ly.blk _ _) (Ly.star (Ly.blk _ _) (Ly.own _ _ _ _)))
  intro M0 M A
  have to : ∀ {N0 N : PH}, MemL h p row next N0 N ↔ (∃ bm a c es clk, (Star (Blk p (.cells #[.slice a row.length c, .map (some bm), .int .i64 next] 61 (0, 0))) (Star (Blk bm (.map es clk)) (fun M0 M => Own 55 factE M0 M a c row))) N0 N ∧ MapIs .string strK es clk (ents row) ∧ ∀ f ∈ row, factG h f) := by
    intro N0 N
    constructor
    · rintro ⟨bm, a, c, es, clk, M1, M2, B1, B2, O, m, g⟩; exact ⟨bm, a, c, es, clk, ⟨M1, B1, M2, B2, O⟩, m, g⟩
    · rintro ⟨bm, a, c, es, clk, ⟨M1, B1, M2, B2, O⟩, m, g⟩; exact ⟨bm, a, c, es, clk, M1, M2, B1, B2, O, m, g⟩
  obtain ⟨F, l, s, k⟩ := hL M0 M (to.1 A)
  exact ⟨F, l, s, fun N0 N l' hN => to.2 (k N0 N l' hN)⟩

/-- The table of powers of ten, in what nobody writes. -/
def Tab (P : Program) (h : PH) : Prop := ∀ w : World, PH.le h (PH.all w) → Lib.TabIs P w "internal/strconv.uint64pow10" .u64 Lib.pow10Tab
theorem Tab.mono {P : Program} {h h' : PH} (T : Tab P h) (hl : PH.le h h') : Tab P h' := fun w hw => T w (hl.trans hw)
theorem Tab.of {P : Program} {W : World} (h : Lib.TabIs P W "internal/strconv.uint64pow10" .u64 Lib.pow10Tab) : Tab P (PH.all W) := fun w hw => by
  unfold Lib.TabIs World.var? at *
  cases hg : P.globalNamed "internal/strconv.uint64pow10" with
  | none => rw [hg] at h; cases h
  | some g =>
    rw [hg] at h
    simp only [Option.bind_some] at h ⊢
    cases ho : W.heap[g]? with
    | none => rw [ho] at h; cases h
    | some o =>
      have h2 : w.heap[g]? = some o := hw g o ho
      rw [ho] at h; rw [h2]; exact h

/-- Where a number's place is. -/
theorem at_no {row : List FactD} {id : Int} (hs : row.Pairwise (fun f g => f.id < g.id)) {p : Nat} (hp : p ≤ row.length) (h1 : ∀ k < p, (row.getD k factE.dflt).id < id)
    (h2 : ∀ k, p ≤ k → k < row.length → id ≤ (row.getD k factE.dflt).id) (h3 : ¬ (p < row.length ∧ (row.getD p factE.dflt).id = id)) : ∀ f ∈ row, f.id ≠ id := by
  intro f hf e
  obtain ⟨k, hk, rfl⟩ := List.getElem_of_mem hf
  have hd : ∀ j, (hj : j < row.length) → row.getD j factE.dflt = row[j] := fun j hj => by simp [List.getD, hj]
  rcases Nat.lt_or_ge k p with q | q
  · have := h1 k q; rw [hd k hk] at this; omega
  · rcases Nat.lt_or_ge p k with q2 | q2
    · have h4 := List.pairwise_iff_getElem.1 hs p k (by omega) hk q2
      have h5 := h2 p (Nat.le_refl _) (by omega)
      rw [hd p (by omega)] at h5
      omega
    · obtain rfl : k = p := by omega
      exact h3 ⟨hk, by rw [hd k hk]; exact e⟩
/-- One step of the search. -/
theorem search_up {row : List FactD} {id : Int} (hs : row.Pairwise (fun f g => f.id < g.id)) {m : Nat} (hm : m < row.length) (h : (row.getD m factE.dflt).id < id) :
    ∀ k < m + 1, (row.getD k factE.dflt).id < id := by
  intro k hk
  have hd : ∀ j, (hj : j < row.length) → row.getD j factE.dflt = row[j] := fun j hj => by simp [List.getD, hj]
  rcases Nat.lt_or_ge k m with q | q
  · have := List.pairwise_iff_getElem.1 hs k m (by omega) hm q
    rw [hd m hm] at h; rw [hd k (by omega)]; omega
  · obtain rfl : k = m := by omega
    exact h
theorem search_down {row : List FactD} {id : Int} (hs : row.Pairwise (fun f g => f.id < g.id)) {m : Nat} (hm : m < row.length) (h : ¬ (row.getD m factE.dflt).id < id) :
    ∀ k, m ≤ k → k < row.length → id ≤ (row.getD k factE.dflt).id := by
  intro k hk hk2
  have hd : ∀ j, (hj : j < row.length) → row.getD j factE.dflt = row[j] := fun j hj => by simp [List.getD, hj]
  rcases Nat.lt_or_ge m k with q | q
  · have := List.pairwise_iff_getElem.1 hs m k hm hk2 q
    rw [hd m hm] at h; rw [hd k hk2]; omega
  · obtain rfl : k = m := by omega
    omega
end Go.Wk
