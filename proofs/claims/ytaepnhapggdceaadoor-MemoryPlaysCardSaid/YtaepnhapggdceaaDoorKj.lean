/-
  No two rows of values have one text.
-/
import Derived.Test.YtaepnhapggdceaaDoorKy
namespace Go.Wk
open Go

def digVal (l : List UInt8) : Nat := l.foldl (fun a b => a * 10 + (b.toNat - 48)) 0
theorem decDigits_eq (u : Nat) : Lib.decDigits u = if u < 10 then [UInt8.ofNat (48 + u)] else Lib.decDigits (u / 10) ++ [UInt8.ofNat (48 + u % 10)] := by
  rw [Lib.decDigits]; split <;> rfl
theorem dig_toNat {u : Nat} (h : u < 10) : (UInt8.ofNat (48 + u)).toNat = 48 + u := by
  simp [UInt8.toNat_ofNat']; omega
theorem digVal_dec : ∀ u : Nat, digVal (Lib.decDigits u) = u := by
  intro u
  induction u using Nat.strongRecOn with
  | _ u ih =>
    rw [decDigits_eq]
    split
    · rename_i h
      simp only [digVal, List.foldl_cons, List.foldl_nil, dig_toNat h]; omega
    · rename_i h
      have h1 := ih (u / 10) (by omega)
      unfold digVal at h1 ⊢
      rw [List.foldl_append, h1]
      simp only [List.foldl_cons, List.foldl_nil, dig_toNat (Nat.mod_lt u (by decide))]
      omega
theorem dec_dig : ∀ (u : Nat), ∀ c ∈ Lib.decDigits u, 48 ≤ c.toNat ∧ c.toNat ≤ 57 := by
  intro u
  induction u using Nat.strongRecOn with
  | _ u ih =>
    intro c hc
    rw [decDigits_eq] at hc
    split at hc
    · rename_i h
      rw [List.mem_singleton] at hc
      rw [hc, dig_toNat h]; omega
    · rename_i h
      rcases List.mem_append.1 hc with hc | hc
      · exact ih (u / 10) (by omega) c hc
      · rw [List.mem_singleton] at hc
        have := Nat.mod_lt u (show 0 < 10 by decide)
        rw [hc, dig_toNat this]; omega
theorem dec_inj {u v : Nat} (h : Lib.decDigits u = Lib.decDigits v) : u = v := by
  rw [← digVal_dec u, ← digVal_dec v, h]
theorem itoa_mem (n : Int) : ∀ c ∈ Lib.itoa n, c.toNat = 45 ∨ (48 ≤ c.toNat ∧ c.toNat ≤ 57) := by
  intro c hc
  unfold Lib.itoa at hc
  split at hc
  · rcases List.mem_cons.1 hc with rfl | hc
    · exact .inl rfl
    · exact .inr (dec_dig _ _ hc)
  · exact .inr (dec_dig _ _ hc)
theorem itoa_inj {n m : Int} (h : Lib.itoa n = Lib.itoa m) : n = m := by
  unfold Lib.itoa at h
  have no : ∀ (u : Nat) (l : List UInt8), Lib.decDigits u ≠ 45 :: l := fun u l e => by
    have := dec_dig u 45 (by rw [e]; simp)
    have e2 : (45 : UInt8).toNat = 45 := rfl
    omega
  split at h
  · split at h
    · have := dec_inj (List.cons.inj h).2; omega
    · exact absurd h.symm (no _ _)
  · split at h
    · exact absurd h (no _ _)
    · have := dec_inj h; omega
theorem split_at {c : UInt8} : ∀ {p q x y : List UInt8}, c ∉ p → c ∉ q → p ++ c :: x = q ++ c :: y → p = q ∧ x = y
  | [], [], x, y, _, _, h => ⟨rfl, (List.cons.inj h).2⟩
  | [], b :: q, x, y, _, hq, h => absurd (List.mem_cons.2 (.inl (List.cons.inj h).1)) hq
  | a :: p, [], x, y, hp, _, h => absurd (List.mem_cons.2 (.inl (List.cons.inj h).1.symm)) hp
  | a :: p, b :: q, x, y, hp, hq, h => by
    obtain ⟨h1, h2⟩ := List.cons.inj h
    obtain ⟨h3, h4⟩ := split_at (fun e => hp (List.mem_cons_of_mem _ e)) (fun e => hq (List.mem_cons_of_mem _ e)) h2
    exact ⟨by rw [h1, h3], h4⟩
theorem itemF_list (v : Val) (r : List UInt8) : (itemF v).data.toList ++ r = Lib.itoa v.k ++ 32 :: (Lib.itoa v.i ++ 32 :: (Lib.itoa v.s.size ++ 58 :: (v.s.data.toList ++ r))) := by
  unfold itemF itoaB
  simp [ByteArray.data_append, List.append_assoc]
theorem hashL_inj : ∀ {l l' : List Val}, hashL l = hashL l' → l = l'
  | [], [], _ => rfl
  | [], v :: r, h => by
    have h' : [] = (itemF v).data.toList ++ hashL r := h
    rw [itemF_list] at h'
    exact absurd h'.symm (by simp)
  | v :: r, [], h => by
    have h' : (itemF v).data.toList ++ hashL r = [] := h
    rw [itemF_list] at h'
    exact absurd h' (by simp)
  | v :: r, v' :: r', h => by
    have h' : (itemF v).data.toList ++ hashL r = (itemF v').data.toList ++ hashL r' := h
    rw [itemF_list, itemF_list] at h'
    have n32 : ∀ n : Int, (32 : UInt8) ∉ Lib.itoa n := fun n e => by have := itoa_mem n _ e; have e2 : (32 : UInt8).toNat = 32 := rfl; omega
    have n58 : ∀ n : Int, (58 : UInt8) ∉ Lib.itoa n := fun n e => by have := itoa_mem n _ e; have e2 : (58 : UInt8).toNat = 58 := rfl; omega
    obtain ⟨h1, h'⟩ := split_at (n32 _) (n32 _) h'
    obtain ⟨h2, h'⟩ := split_at (n32 _) (n32 _) h'
    obtain ⟨h3, h'⟩ := split_at (n58 _) (n58 _) h'
    have e1 := itoa_inj h1
    have e2 := itoa_inj h2
    have e3 := itoa_inj h3
    have hlen : v.s.data.toList.length = v'.s.data.toList.length := by
      rw [Array.length_toList, Array.length_toList]
      have : v.s.size = v'.s.size := by omega
      exact this
    obtain ⟨h4, h5⟩ := List.append_inj h' hlen
    have e4 : v.s = v'.s := by
      have : v.s.data = v'.s.data := Array.ext' h4
      cases hv : v.s; cases hv' : v'.s; rw [hv, hv'] at this; simp_all
    have hr := hashL_inj h5
    rw [hr]
    cases v; cases v'; simp_all
theorem keyF_inj {t t' : ByteArray} {l l' : List Val} (h : keyF t l = keyF t' l') : t = t' ∧ l = l' := by
  unfold keyF hashF at h
  have h1 := congrArg (fun b => b.data.toList) h
  simp only [] at h1
  have h2 := hashL_inj h1
  simp only [List.cons.injEq, Val.mk.injEq, true_and] at h2
  exact h2
end Go.Wk
