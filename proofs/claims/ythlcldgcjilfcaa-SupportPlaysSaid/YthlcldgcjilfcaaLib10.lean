/-
  The calculus, tenth part: strings and builders; calls that leave all that lay there as it was.
-/
import Derived.Test.YthlcldgcjilfcaaLib9
import Derived.Lib.AppendStr
import Derived.Lib.Builder
import Derived.Below
namespace Go.Wk
open Go

def bytE : Enc UInt8 := ⟨1, fun b => [.int .u8 (b.toNat : Int)], 0, by decide, fun _ => rfl, fun _ v hv => by simp at hv; subst hv; rfl⟩
theorem flat_bytes (s : ByteArray) : flat bytE s.data.toList = Lib.strCells s := by
  unfold flat Lib.strCells
  generalize s.data.toList = l
  induction l with
  | nil => rfl
  | cons x r ih => simp only [List.flatMap_cons, List.map_cons, ih]; rfl
theorem str_size (s : ByteArray) : s.data.toList.length = s.size := by rw [Array.length_toList]; rfl

/-- An own row of bytes whose array is just as long as its capacity says. -/
def OwnB (t : TypeId) (M0 M : PH) (a : Option Addr) (cap : Nat) (xs : List UInt8) : Prop :=
  (a = none ∧ cap = 0 ∧ xs = [] ∧ M = M0) ∨
  ∃ g cur, a = some ⟨g, 0, none⟩ ∧ M0 g = none ∧ M = M0.set g (.cells cur t (0, 0)) ∧ xs.length ≤ cap ∧ cap ≤ maxLen ∧ cur.size = cap * bytE.sz ∧ cur.toList.take (xs.length * bytE.sz) = flat bytE xs
theorem OwnB.nil (t : TypeId) (M : PH) : OwnB t M M none 0 [] := .inl ⟨rfl, rfl, rfl, rfl⟩
theorem OwnB.own {t : TypeId} {M0 M : PH} {a : Option Addr} {cap : Nat} {xs : List UInt8} (o : OwnB t M0 M a cap xs) : Own t bytE M0 M a cap xs := by
  rcases o with h | ⟨g, cur, h1, h2, h3, h4, h5, h6, h7⟩
  · exact .inl h
  · exact .inr ⟨g, cur, h1, h2, h3, h4, h5, Nat.le_of_eq h6.symm, h7⟩
theorem OwnB.le {t : TypeId} {M0 M : PH} {a : Option Addr} {cap : Nat} {xs : List UInt8} (o : OwnB t M0 M a cap xs) : PH.le M0 M := o.own.le
theorem OwnB.reads {t : TypeId} {M0 M : PH} {a : Option Addr} {cap : Nat} {xs : List UInt8} (o : OwnB t M0 M a cap xs) : RS M bytE a xs := o.own.reads
theorem OwnB.lay {t : TypeId} {M0 M : PH} {a : Option Addr} {cap : Nat} {xs : List UInt8} (ow : OwnB t M0 M a cap xs) : ∃ F, Lay F M0 M ∧ (∀ b ∈ F, M b ≠ none) ∧
    ∀ N0 N, Lay F N0 N → (∀ b ∈ F, N b = M b) → OwnB t N0 N a cap xs := by
  rcases ow with ⟨h1, h2, h3, rfl⟩ | ⟨g, cur, ha, h0, rfl, r⟩
  · exact ⟨[], Lay.refl _, by simp, fun N0 N l _ => .inl ⟨h1, h2, h3, funext fun b => l.rest b (by simp)⟩⟩
  · refine ⟨[g], ⟨by simpa using h0, fun b hb => PH.set_other _ _ (by simpa using hb)⟩, by simp [PH.set], fun N0 N l hN => .inr ⟨g, cur, ha, l.free g (by simp), funext fun b => ?_, r⟩⟩
    by_cases hb : b = g
    · subst hb; rw [PH.set_same, hN b (by simp), PH.set_same]
    · rw [PH.set_other _ _ hb]; exact l.rest b (by simpa using hb)
theorem Ly.ownB (t : TypeId) (a : Option Addr) (cap : Nat) (xs : List UInt8) : Ly (fun M0 M => OwnB t M0 M a cap xs) := fun _ _ o => o.lay

section
variable {P : Program} {K : Key} {w : World} {h M : PH}
/-- What lay there stands. -/
theorem Wld.below (G : Wld K w h M) {w' : World} (hb : RowKit.Below w.heap.size w w') : Wld K w' h M := by
  have hle : PH.le (PH.all w) (PH.all w') := fun x o e => by
    have := hb.block x (all_lt e)
    simp only [PH.all] at e ⊢
    rw [this]; exact e
  exact ⟨by rw [← G.key]; simp [keyOf, hb.os, hb.tape, hb.output], G.imm.trans hle, G.own.trans hle, G.dis⟩

/-- APPEND OF A STRING TO AN OWN ROW OF BYTES. -/
theorem OwnB.appendStr {t u ty e : TypeId} {i : TypeInfo} {z : Value} (ht : P.underlying t = some (.slice e)) (hu : P.underlying u = some .string) (hi : P.info? e = some i) (hz : i.zero = some z) (hsz : i.size = 1) (hby : i.bytes = 1) (hzs : z.cells.size = 1)
    {M0 M1 : PH} {a : Option Addr} {cap : Nat} {xs : List UInt8} (s : ByteArray) (G : Wld K w h M) (hM : PH.le M1 M) (o : OwnB e M0 M1 a cap xs) (hmax : xs.length + s.size ≤ 140737488351232) :
    ∃ a' cap' w' M', (Builtin.append_ #[t, u] ty #[.slice a xs.length cap, .string s]).run P w = .ok (.slice a' (xs ++ s.data.toList).length cap') w' ∧
      Wld K w' h M' ∧ OwnB e M0 M' a' cap' (xs ++ s.data.toList) := by
  have G1 := G.drop hM
  have hl := str_size s
  have hfl := flat_bytes s
  by_cases hs0 : s.size = 0
  · have hnil : s.data.toList = [] := List.eq_nil_of_length_eq_zero (by omega)
    rw [hnil, List.append_nil]
    refine ⟨a, cap, w, M1, ?_, G1, o⟩
    rcases o with ⟨rfl, rfl, rfl, rfl⟩ | ⟨g, cur, rfl, h0, rfl, hx, hc, hsc, htk⟩
    · simp [Builtin.append_, run_underlying ht, run_underlying hu, sizeOf, typeInfo, hi, Builtin.lenOf, Builtin.firstCells, hs0]
    · simp [Builtin.append_, run_underlying ht, run_underlying hu, sizeOf, typeInfo, hi, Builtin.lenOf, Builtin.firstCells, hs0, hx, storeCells]
  · have hpos : 0 < s.size := by omega
    have grown : ∀ (old : Nat), old < xs.length + s.size →
        Wld K (w.drew.alloc (.cells ((flat bytE xs).toArray ++ (Lib.strCells s).toArray ++ Builtin.zeroCells z.cells (grownCap w (xs.length + s.size) old e - (xs.length + s.size))) e)) h
          (M0.set w.heap.size (.cells ((flat bytE xs).toArray ++ (Lib.strCells s).toArray ++ Builtin.zeroCells z.cells (grownCap w (xs.length + s.size) old e - (xs.length + s.size))) e)) ∧
        OwnB e M0 (M0.set w.heap.size (.cells ((flat bytE xs).toArray ++ (Lib.strCells s).toArray ++ Builtin.zeroCells z.cells (grownCap w (xs.length + s.size) old e - (xs.length + s.size))) e))
          (some ⟨w.heap.size, 0, none⟩) (grownCap w (xs.length + s.size) old e) (xs ++ s.data.toList) := by
      intro old ho
      have hge := grownCap_ge w (xs.length + s.size) old e
      have hcm := grownCap_le_maxLen w (xs.length + s.size) old e (by simp only [maxLen]; omega)
      refine ⟨((G1.drop o.le).drew'.alloc _), .inr ⟨w.heap.size, _, rfl, (G1.drop o.le).new.1, rfl, by simp only [List.length_append]; omega, hcm, ?_, ?_⟩⟩
      · have h1 : bytE.sz = 1 := rfl
        simp only [Array.size_append, List.size_toArray, size_zeroCells, hzs, flat_length, h1, Nat.mul_one, ← hfl]
        omega
      · simp only [Array.toList_append, List.append_assoc]
        rw [← List.append_assoc, ← hfl, ← flat_append, ← flat_length]
        exact List.take_left
    rcases o with ⟨rfl, rfl, rfl, rfl⟩ | ⟨g, cur, rfl, h0, rfl, hx, hc, hsc, htk⟩
    · have hr := run_append_nil_string (P := P) w t u ty e i z ht hu hi hz s hpos (by simp at hmax; omega) (by rw [hby]; simp at hmax; omega)
      have hg := grown 0 (by simp; omega)
      have hm : s.data.map (fun b => Value.int .u8 b.toNat) = (Lib.strCells s).toArray := by unfold Lib.strCells; apply Array.ext'; simp
      simp only [List.length_nil, Nat.zero_add, List.nil_append, flat, List.flatMap_nil, Array.empty_append] at hg hr ⊢
      rw [hm] at hr
      exact ⟨_, _, _, _, by rw [hl]; exact hr, hg.1, hg.2⟩
    · have hsz1 : bytE.sz = 1 := rfl
      rw [hsz1, Nat.mul_one] at hsc htk
      by_cases hroom : xs.length + s.size ≤ cap
      · have hb := G1.own _ _ (PH.set_same M0 g _)
        have hr := Lib.run_append_room_string (P := P) w t u ty e i ht hu hi hsz g xs.length cap cur hb s hroom (by omega)
        have G2 := G1.setRow (cur.toList.take xs.length ++ Lib.strCells s ++ cur.toList.drop (xs.length + s.size)).toArray (PH.set_same M0 g _)
        rw [PH.set_set] at G2
        have hcl : (Lib.strCells s).length = s.size := by rw [← hfl, flat_length, hl]; simp [hsz1]
        refine ⟨_, _, _, _, by rw [List.length_append, hl]; exact hr, G2, .inr ⟨g, _, rfl, h0, rfl, by simp only [List.length_append]; omega, hc, ?_, ?_⟩⟩
        · simp only [List.size_toArray, List.length_append, List.length_take, List.length_drop, Array.length_toList, hsz1]
          omega
        · rw [htk, ← hfl, ← flat_append, ← flat_length]
          exact List.take_left
      · have holds : ∀ j v, (flat bytE xs)[j]? = some v → w.cell? ((⟨g, 0, none⟩ : Addr).add j) = some v := fun j v hv => by
          have hb := G1.own _ _ (PH.set_same M0 g _)
          rw [← htk, List.getElem?_take] at hv
          split at hv
          · rw [add_at]; exact cell_of (PH.le_refl _) hb (by simpa using hv)
          · cases hv
        have hr := Lib.run_append_grow_string (P := P) w t u ty e i z ht hu hi hz ⟨g, 0, none⟩ xs.length cap (flat bytE xs) (by rw [flat_length, hsz, hsz1]) holds s (by omega) (by omega) (growslice_fits (by omega) (by rw [hby]; omega))
        have hg := grown cap (by omega)
        exact ⟨_, _, _, _, by rw [List.length_append, hl]; exact hr, hg.1, hg.2⟩
end
end Go.Wk
