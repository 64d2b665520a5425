/-
  Values as a text: what is known of it.
-/
import Derived.Test.YtaepnhapggdceaaDoorMm
import Derived.Test.YtaepnhapggdceaaDoorShp
import Derived.Test.YtaepnhapggdceaaDoorLib14
namespace Go.Wk
open Go

theorem all_grow (w : World) (os : Array Obj) : PH.le (PH.all w) (PH.all (Sort.grow w os)) := fun b o e => by
  have hlt := all_lt e
  simp only [PH.all, Sort.grow] at e ⊢
  rw [Array.getElem?_append_left hlt]; exact e
theorem Wld.grown {K : Key} {w : World} {h M : PH} (G : Wld K w h M) (k : Nat) (os : Array Obj) : Wld K (Sort.grow (w.drewN k) os) h M :=
  ⟨G.key, G.imm.trans (all_grow (w.drewN k) os), G.own.trans (all_grow (w.drewN k) os), G.dis⟩
theorem itoaB_size {n : Int} (h0 : -9223372036854775808 ≤ n) (h1 : n ≤ 9223372036854775807) : (itoaB n).size ≤ 21 := by
  have := Lib.itoa_length_le n h0 h1
  show (Lib.itoa n).toArray.size ≤ 21
  simpa using this
theorem size1 (b : UInt8) : (ByteArray.mk #[b]).size = 1 := rfl
theorem itemF_size {v : Val} (h : ValOk v) : (itemF v).size ≤ 1000100 := by
  obtain ⟨⟨a1, a2⟩, ⟨a3, a4⟩, a5⟩ := h
  have h1 := itoaB_size a1 a2
  have h2 := itoaB_size a3 a4
  have h3 := itoaB_size (n := (v.s.size : Int)) (by omega) (by omega)
  unfold itemF
  simp only [ByteArray.size_append, size1]
  omega
theorem hashL_len {l : List Val} (h : ∀ v ∈ l, ValOk v) : (hashL l).length ≤ l.length * 1000100 := by
  induction l with
  | nil => simp [hashL]
  | cons v r ih =>
    have h1 := itemF_size (h v (by simp))
    have h2 := ih fun x hx => h x (by simp [hx])
    have h3 : (itemF v).data.toList.length = (itemF v).size := by rw [Array.length_toList]; rfl
    unfold hashL at h2 ⊢
    simp only [List.flatMap_cons, List.length_append, List.length_cons, Nat.add_mul] at *
    omega
theorem hashL_succ (l : List Val) {k : Nat} (hk : k < l.length) : hashL (l.take (k + 1)) = hashL (l.take k) ++ (itemF (l.getD k valE.dflt)).data.toList := by
  have e : l.getD k valE.dflt = l[k] := by simp [List.getD, hk]
  unfold hashL
  rw [List.take_succ_eq_append_getElem hk, List.flatMap_append, e]
  simp
end Go.Wk
