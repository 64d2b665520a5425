/-
  The calculus, third part: memory as a read-only part 'h' and an owned part 'M'; slices of shallow elements; append to an own slice.
-/
import Derived.Test.YthlcldgcjilfcaaLib2
namespace Go.Wk
open Go

/-! ### Parts of a heap -/
abbrev PH := Nat → Option Obj
def PH.le (h h' : PH) : Prop := ∀ b o, h b = some o → h' b = some o
def PH.set (M : PH) (b : Nat) (o : Obj) : PH := fun x => if x = b then some o else M x
def PH.del (M : PH) (b : Nat) : PH := fun x => if x = b then none else M x
def PH.all (w : World) : PH := fun b => w.heap[b]?
def PH.nil : PH := fun _ => none

theorem PH.le_refl (h : PH) : PH.le h h := fun _ _ e => e
theorem PH.le.trans {a b c : PH} (h : PH.le a b) (k : PH.le b c) : PH.le a c := fun x o e => k x o (h x o e)
theorem PH.set_same (M : PH) (b : Nat) (o : Obj) : (M.set b o) b = some o := by simp [PH.set]
theorem PH.set_other (M : PH) {b x : Nat} (o : Obj) (hne : x ≠ b) : (M.set b o) x = M x := by simp [PH.set, hne]
theorem PH.del_other (M : PH) {b x : Nat} (hne : x ≠ b) : (M.del b) x = M x := by simp [PH.del, hne]
theorem PH.le_set {M : PH} {b : Nat} (o : Obj) (hb : M b = none) : PH.le M (M.set b o) := fun x u e => by
  by_cases hx : x = b
  · subst hx; rw [hb] at e; cases e
  · rw [PH.set_other M o hx]; exact e
theorem PH.del_le (M : PH) (b : Nat) : PH.le (M.del b) M := fun x u e => by
  by_cases hx : x = b
  · subst hx; simp [PH.del] at e
  · rwa [PH.del_other M hx] at e
theorem PH.set_set (M : PH) (b : Nat) (o o' : Obj) : (M.set b o).set b o' = M.set b o' := by
  funext x; by_cases hx : x = b <;> simp [PH.set, hx]
theorem PH.set_comm (M : PH) {b c : Nat} (o o' : Obj) (h : b ≠ c) : (M.set b o).set c o' = (M.set c o').set b o := by
  funext x; by_cases hx : x = b
  · subst hx; simp [PH.set, h]
  · by_cases hy : x = c
    · subst hy; simp [PH.set, hx]
    · simp [PH.set, hx, hy]
theorem PH.del_set (M : PH) (b : Nat) (o : Obj) (hb : M b = none) : (M.set b o).del b = M := by
  funext x; by_cases hx : x = b
  · subst hx; simp [PH.del, hb]
  · simp [PH.set, PH.del, hx]
theorem PH.set_id (M : PH) {b : Nat} {o : Obj} (hb : M b = some o) : M.set b o = M := by
  funext x; by_cases hx : x = b
  · subst hx; simp [PH.set, hb]
  · simp [PH.set, hx]
theorem PH.ne_of {M : PH} {b c : Nat} {o : Obj} (hb : M b = some o) (hc : M c = none) : b ≠ c := fun e => by subst e; rw [hb] at hc; cases hc
theorem PH.le_set_mono {M M' : PH} (h : PH.le M M') (b : Nat) (o : Obj) : PH.le (M.set b o) (M'.set b o) := fun x u e => by
  by_cases hx : x = b
  · subst hx; simp [PH.set] at e ⊢; exact e
  · rw [PH.set_other _ o hx] at e ⊢; exact h x u e

structure Key where
  os : Os
  tape : Nat → Question → Nat
  output : Array (Nat × ByteArray)
def keyOf (w : World) : Key := ⟨w.os, w.tape, w.output⟩

/-- The world bears the read-only part h and the owned part M, and no block is in both. -/
structure Wld (K : Key) (w : World) (h M : PH) : Prop where
  key : keyOf w = K
  imm : PH.le h (PH.all w)
  own : PH.le M (PH.all w)
  dis : ∀ b o, M b = some o → h b = none

section
variable {K : Key} {w : World} {h M : PH}

theorem Wld.drew (G : Wld K w h M) : Wld K { w with drawn := w.drawn + 1 } h M := ⟨G.key, G.imm, G.own, G.dis⟩
theorem Wld.drew' (G : Wld K w h M) : Wld K w.drew h M := ⟨G.key, G.imm, G.own, G.dis⟩
theorem Wld.drop (G : Wld K w h M) {M' : PH} (hm : PH.le M' M) : Wld K w h M' := ⟨G.key, G.imm, hm.trans G.own, fun b o e => G.dis b o (hm b o e)⟩
theorem Wld.less (G : Wld K w h M) {h' : PH} (hm : PH.le h' h) : Wld K w h' M := ⟨G.key, hm.trans G.imm, G.own, fun b o e => by
  cases hb : h' b with
  | none => rfl
  | some x => have h1 := hm b x hb; rw [G.dis b o e] at h1; cases h1⟩

theorem all_lt {b : Nat} {o : Obj} (e : PH.all w b = some o) : b < w.heap.size := (Array.getElem?_eq_some_iff.1 e).1
theorem Wld.new (G : Wld K w h M) : M w.heap.size = none ∧ h w.heap.size = none := by
  constructor
  · cases hb : M w.heap.size with
    | none => rfl
    | some x => exact absurd (all_lt (G.own _ _ hb)) (by omega)
  · cases hb : h w.heap.size with
    | none => rfl
    | some x => exact absurd (all_lt (G.imm _ _ hb)) (by omega)

theorem all_alloc (w : World) (o : Obj) : PH.all (w.alloc o) = (PH.all w).set w.heap.size o := by
  funext b
  simp only [PH.all, PH.set, World.alloc, Array.getElem?_push]
theorem le_all_alloc (w : World) (o : Obj) : PH.le (PH.all w) (PH.all (w.alloc o)) := by
  rw [all_alloc]
  exact PH.le_set o (by simp [PH.all])

theorem Wld.alloc (G : Wld K w h M) (o : Obj) : Wld K (w.alloc o) h (M.set w.heap.size o) :=
  ⟨G.key, G.imm.trans (le_all_alloc w o), by rw [all_alloc]; exact PH.le_set_mono G.own _ _, fun b u e => by
    by_cases hb : b = w.heap.size
    · subst hb; exact G.new.2
    · rw [PH.set_other _ _ hb] at e; exact G.dis b u e⟩
theorem Wld.allocI (G : Wld K w h M) (o : Obj) : Wld K (w.alloc o) (h.set w.heap.size o) M :=
  ⟨G.key, by rw [all_alloc]; exact PH.le_set_mono G.imm _ _, G.own.trans (le_all_alloc w o), fun b u e => by
    have hne : b ≠ w.heap.size := PH.ne_of e G.new.1
    rw [PH.set_other _ _ hne]; exact G.dis b u e⟩
theorem Wld.alloc0 (G : Wld K w h M) (o : Obj) : Wld K (w.alloc o) h M :=
  ⟨G.key, G.imm.trans (le_all_alloc w o), G.own.trans (le_all_alloc w o), G.dis⟩

/-- A block that was owned becomes read-only. -/
theorem Wld.freeze (G : Wld K w h M) {b : Nat} {o : Obj} (hb : M b = some o) : Wld K w (h.set b o) (M.del b) ∧ PH.le h (h.set b o) := by
  refine ⟨⟨G.key, fun x u e => ?_, (PH.del_le M b).trans G.own, fun x u e => ?_⟩, PH.le_set o (G.dis b o hb)⟩
  · by_cases hx : x = b
    · subst hx; rw [PH.set_same] at e; cases e; exact G.own _ _ hb
    · rw [PH.set_other _ _ hx] at e; exact G.imm _ _ e
  · by_cases hx : x = b
    · subst hx; simp [PH.del] at e
    · rw [PH.set_other _ _ hx]; exact G.dis x u ((PH.del_le M b) x u e)

theorem all_setRow (w : World) {b : Nat} {cs cs' : Array Value} {t : TypeId} (hb : PH.all w b = some (.cells cs t (0, 0))) :
    PH.all (w.setRow b cs') = (PH.all w).set b (.cells cs' t (0, 0)) := by
  funext x
  by_cases hx : x = b
  · subst hx; rw [PH.set_same]; exact setRow_heap w x cs cs' t (0, 0) hb
  · rw [PH.set_other _ _ hx]; exact setRow_other w b x cs' hx
theorem Wld.setBlock {w' : World} (G : Wld K w h M) {b : Nat} {o o' : Obj} (hb : M b = some o) (hk : keyOf w' = keyOf w) (ha : PH.all w' = (PH.all w).set b o') :
    Wld K w' h (M.set b o') := by
  refine ⟨hk.trans G.key, fun x u e => ?_, by rw [ha]; exact PH.le_set_mono G.own _ _, fun x u e => ?_⟩
  · rw [ha, PH.set_other]
    · exact G.imm _ _ e
    · intro hx; subst hx; rw [G.dis _ _ hb] at e; cases e
  · by_cases hx : x = b
    · subst hx; exact G.dis _ _ hb
    · rw [PH.set_other _ _ hx] at e; exact G.dis _ _ e
theorem Wld.setRow (G : Wld K w h M) {b : Nat} {cs : Array Value} (cs' : Array Value) {t : TypeId} (hb : M b = some (.cells cs t (0, 0))) :
    Wld K (w.setRow b cs') h (M.set b (.cells cs' t (0, 0))) := G.setBlock hb rfl (all_setRow w (G.own _ _ hb))
theorem Wld.setCell (G : Wld K w h M) {b : Nat} {cs : Array Value} {t : TypeId} (off : Nat) (v : Value) (hb : M b = some (.cells cs t (0, 0))) :
    Wld K (w.setCell ⟨b, off, none⟩ v) h (M.set b (.cells (cs.setIfInBounds off v) t (0, 0))) := by
  rw [setCell_eq_setRow w b off cs t (0, 0) v (G.own _ _ hb)]
  exact G.setRow _ hb
theorem Wld.setObj (G : Wld K w h M) {b : Nat} {o : Obj} (o' : Obj) (hb : M b = some o) : Wld K { w with heap := w.heap.setIfInBounds b o' } h (M.set b o') :=
  G.setBlock hb rfl (by
    have hlt := all_lt (G.own _ _ hb)
    funext x
    simp only [PH.all, PH.set]
    by_cases hx : x = b
    · subst hx; simp [hlt]
    · rw [if_neg hx, Array.getElem?_setIfInBounds_ne (Ne.symm hx)])

theorem cell_of {hp : PH} (hl : PH.le hp (PH.all w)) {b off : Nat} {cs : Array Value} {t : TypeId} {fr : Nat × Nat} {v : Value} (hb : hp b = some (.cells cs t fr)) (hc : cs[off]? = some v) :
    w.cell? ⟨b, off, none⟩ = some v := by
  have := hl _ _ hb
  simp only [PH.all] at this
  simp [World.cell?, this, hc]
theorem frozen_of {hp : PH} (hl : PH.le hp (PH.all w)) {b off : Nat} {cs : Array Value} {t : TypeId} (hb : hp b = some (.cells cs t (0, 0))) :
    w.frozen? ⟨b, off, none⟩ = false := by
  have := hl _ _ hb
  simp only [PH.all] at this
  simp [World.frozen?, this]
end

/-! ### What a call leaves -/
/-- It returns; the read-only part has grown; the owned part is M', of which Φ speaks. -/
def RetM (K : Key) (h : PH) (Φ : PH → PH → Value → Prop) (e : Ending) (w' : World) : Prop :=
  ∃ h' M' v, e = .returned v ∧ PH.le h h' ∧ Wld K w' h' M' ∧ Φ h' M' v
/-- The owned part is as it was. -/
def Ret (K : Key) (h M : PH) (Φ : PH → Value → Prop) : Ending → World → Prop := RetM K h fun h' M' v => M' = M ∧ Φ h' v

theorem RetM.not_panicked {K : Key} {h : PH} {Φ : PH → PH → Value → Prop} : ∀ c w, ¬ RetM K h Φ (.panicked c) w := fun c w ⟨_, _, _, e, _⟩ => by cases e
theorem RetM.mk {K : Key} {h : PH} {Φ : PH → PH → Value → Prop} {w' : World} {h' M' : PH} {v : Value} (hl : PH.le h h') (G : Wld K w' h' M') (hΦ : Φ h' M' v) :
    RetM K h Φ (.returned v) w' := ⟨h', M', v, rfl, hl, G, hΦ⟩
theorem Ret.mk {K : Key} {h M : PH} {Φ : PH → Value → Prop} {w' : World} {h' : PH} {v : Value} (hl : PH.le h h') (G : Wld K w' h' M) (hΦ : Φ h' v) :
    Ret K h M Φ (.returned v) w' := ⟨h', M, v, rfl, hl, G, rfl, hΦ⟩
theorem RetM.elim {K : Key} {h : PH} {Φ : PH → PH → Value → Prop} {T : Value → World → Prop}
    (k : ∀ w' h' M' v, PH.le h h' → Wld K w' h' M' → Φ h' M' v → T v w') : ∀ e w', RetM K h Φ e w' → ∃ v, e = .returned v ∧ T v w' :=
  fun _ w' ⟨h', M', v, he, hl, G, hΦ⟩ => ⟨v, he, k w' h' M' v hl G hΦ⟩
theorem Ret.elim {K : Key} {h M : PH} {Φ : PH → Value → Prop} {T : Value → World → Prop}
    (k : ∀ w' h' v, PH.le h h' → Wld K w' h' M → Φ h' v → T v w') : ∀ e w', Ret K h M Φ e w' → ∃ v, e = .returned v ∧ T v w' :=
  fun _ w' ⟨h', M', v, he, hl, G, hM, hΦ⟩ => by subst hM; exact ⟨v, he, k w' h' v hl G hΦ⟩

/-! ### Slices of shallow elements -/
structure Enc (S : Type) where
  sz : Nat
  enc : S → List Value
  dflt : S
  pos : 0 < sz
  len : ∀ s, (enc s).length = sz
  one : ∀ s, ∀ v ∈ enc s, v.oneCell' = true

def intE : Enc Int := ⟨1, fun n => [.int .i64 n], 0, by decide, fun _ => rfl, fun _ v hv => by simp at hv; subst hv; rfl⟩
def u8E : Enc Int := ⟨1, fun n => [.int .u8 n], 0, by decide, fun _ => rfl, fun _ v hv => by simp at hv; subst hv; rfl⟩
def strE : Enc ByteArray := ⟨1, fun s => [.string s], .empty, by decide, fun _ => rfl, fun _ v hv => by simp at hv; subst hv; rfl⟩

variable {S : Type}
def flat (E : Enc S) (xs : List S) : List Value := xs.flatMap E.enc

theorem flat_length (E : Enc S) (xs : List S) : (flat E xs).length = xs.length * E.sz := by
  unfold flat
  induction xs with
  | nil => simp
  | cons x r ih => simp only [List.flatMap_cons, List.length_append, E.len, ih, List.length_cons, Nat.add_mul]; omega
theorem flat_append (E : Enc S) (xs ys : List S) : flat E (xs ++ ys) = flat E xs ++ flat E ys := by simp [flat]
theorem flat_get (E : Enc S) : ∀ (xs : List S) (i k : Nat), i < xs.length → k < E.sz → (flat E xs)[i * E.sz + k]? = (E.enc (xs.getD i E.dflt))[k]?
  | [], i, k, hi, _ => by simp at hi
  | x :: r, 0, k, _, hk => by
    simp only [flat, List.flatMap_cons, Nat.zero_mul, Nat.zero_add, List.getD_cons_zero]
    rw [List.getElem?_append_left (by rw [E.len]; exact hk)]
  | x :: r, i + 1, k, hi, hk => by
    simp only [flat, List.flatMap_cons, List.getD_cons_succ]
    rw [List.getElem?_append_right (by rw [E.len, Nat.add_mul]; omega), E.len]
    have : (i + 1) * E.sz + k - E.sz = i * E.sz + k := by rw [Nat.add_mul]; omega
    rw [this]
    exact flat_get E r i k (by simpa using hi) hk
theorem flat_one (E : Enc S) (xs : List S) : ∀ v ∈ flat E xs, v.oneCell' = true := by
  intro v hv
  simp only [flat, List.mem_flatMap] at hv
  obtain ⟨s, _, hs⟩ := hv
  exact E.one s v hs

/-- In part hp of a heap a slice at 'a' reads as xs. -/
def RS (hp : PH) (E : Enc S) (a : Option Addr) (xs : List S) : Prop :=
  xs = [] ∨ ∃ b off cs t fr, a = some ⟨b, off, none⟩ ∧ hp b = some (.cells cs t fr) ∧ ∀ j v, (flat E xs)[j]? = some v → cs[off + j]? = some v

theorem RS.mono {hp hp' : PH} {E : Enc S} {a : Option Addr} {xs : List S} (r : RS hp E a xs) (hl : PH.le hp hp') : RS hp' E a xs := by
  rcases r with r | ⟨b, off, cs, t, fr, ha, hb, hc⟩
  · exact .inl r
  · exact .inr ⟨b, off, cs, t, fr, ha, hl _ _ hb, hc⟩
theorem RS.nil (hp : PH) (E : Enc S) (a : Option Addr) : RS hp E a [] := .inl rfl

/-- The place of a cell of a slice. -/
def eptr (a : Option Addr) (k : Nat) : Value := match a with | some ad => .pointer (some ⟨ad.block, ad.off + k, none⟩) | none => undef

theorem RS.at {hp : PH} {E : Enc S} {a : Option Addr} {xs : List S} (r : RS hp E a xs) {i : Nat} (hi : i < xs.length) :
    ∃ b off cs t fr, a = some ⟨b, off, none⟩ ∧ hp b = some (.cells cs t fr) ∧ ∀ k v, k < E.sz → (E.enc (xs.getD i E.dflt))[k]? = some v → cs[off + (i * E.sz + k)]? = some v := by
  rcases r with rfl | ⟨b, off, cs, t, fr, ha, hb, hc⟩
  · simp at hi
  · exact ⟨b, off, cs, t, fr, ha, hb, fun k v hk hv => hc _ _ (by rw [flat_get E xs i k hi hk]; exact hv)⟩

/-- An own slice of a call: M is M0 and, unless the slice is nil, the one block of its cells. -/
def Own (t : TypeId) (E : Enc S) (M0 M : PH) (a : Option Addr) (cap : Nat) (xs : List S) : Prop :=
  (a = none ∧ cap = 0 ∧ xs = [] ∧ M = M0) ∨
  ∃ g cur, a = some ⟨g, 0, none⟩ ∧ M0 g = none ∧ M = M0.set g (.cells cur t (0, 0)) ∧ xs.length ≤ cap ∧ cap ≤ maxLen ∧ cap * E.sz ≤ cur.size ∧ cur.toList.take (xs.length * E.sz) = flat E xs

theorem Own.nil (t : TypeId) (E : Enc S) (M : PH) : Own t E M M none 0 [] := .inl ⟨rfl, rfl, rfl, rfl⟩
theorem Own.le {t : TypeId} {E : Enc S} {M0 M : PH} {a : Option Addr} {cap : Nat} {xs : List S} (o : Own t E M0 M a cap xs) : PH.le M0 M := by
  rcases o with ⟨_, _, _, rfl⟩ | ⟨g, cur, _, h0, rfl, _⟩
  · exact PH.le_refl _
  · exact PH.le_set _ h0
theorem Own.reads {t : TypeId} {E : Enc S} {M0 M : PH} {a : Option Addr} {cap : Nat} {xs : List S} (o : Own t E M0 M a cap xs) : RS M E a xs := by
  rcases o with ⟨_, _, h, _⟩ | ⟨g, cur, ha, _, rfl, hx, _, hs, ht⟩
  · exact .inl h
  · refine .inr ⟨g, 0, cur, t, (0, 0), ha, PH.set_same _ _ _, fun j v hv => ?_⟩
    rw [← ht, List.getElem?_take] at hv
    split at hv
    · simpa using hv
    · cases hv
/-- An own slice is let go into the read-only part. -/
theorem Own.freeze {t : TypeId} {E : Enc S} {M0 M : PH} {a : Option Addr} {cap : Nat} {xs : List S} {K : Key} {w : World} {h : PH} (o : Own t E M0 M a cap xs) (G : Wld K w h M) :
    ∃ h', PH.le h h' ∧ Wld K w h' M0 ∧ RS h' E a xs := by
  have r := o.reads
  rcases o with ⟨_, _, hx, rfl⟩ | ⟨g, cur, ha, h0, rfl, _⟩
  · exact ⟨h, PH.le_refl _, G, .inl hx⟩
  · obtain ⟨G', hl⟩ := G.freeze (PH.set_same M0 g _)
    rw [PH.del_set _ _ _ h0] at G'
    refine ⟨_, hl, G', ?_⟩
    rcases r with r | ⟨b, off, cs, t', fr, hb1, hb2, hc⟩
    · exact .inl r
    · rw [ha] at hb1
      simp only [Option.some.injEq, Addr.mk.injEq, and_true] at hb1
      obtain ⟨rfl, rfl⟩ := hb1
      rw [PH.set_same] at hb2
      exact .inr ⟨_, _, cs, t', fr, ha, by rw [PH.set_same]; exact hb2, hc⟩

theorem none_of_le {M0 M1 : PH} (hl : PH.le M0 M1) {b : Nat} (h : M1 b = none) : M0 b = none := by
  cases hb : M0 b with
  | none => rfl
  | some x => have := hl b x hb; rw [h] at this; cases this
/-- A new block is laid beneath an own slice. -/
theorem Own.under {t : TypeId} {E : Enc S} {M0 M : PH} {a : Option Addr} {cap : Nat} {xs : List S} {b : Nat} {o : Obj} (hb : M b = none) (ow : Own t E M0 M a cap xs) :
    Own t E (M0.set b o) (M.set b o) a cap xs := by
  rcases ow with ⟨h1, h2, h3, rfl⟩ | ⟨g, cur, ha, h0, rfl, r⟩
  · exact .inl ⟨h1, h2, h3, rfl⟩
  · have hne : g ≠ b := fun e => by subst e; simp [PH.set] at hb
    exact .inr ⟨g, cur, ha, by rw [PH.set_other _ _ hne]; exact h0, PH.set_comm _ _ _ hne, r⟩

theorem add_at (b off k : Nat) : (⟨b, off, none⟩ : Addr).add k = ⟨b, off + k, none⟩ := by
  unfold Addr.add; split <;> simp_all

theorem RS.cells {w : World} {hp : PH} (hl : PH.le hp (PH.all w)) {E : Enc S} {ad : Addr} {xs : List S} (r : RS hp E (some ad) xs) (hx : xs ≠ []) :
    ∀ j u, (flat E xs)[j]? = some u → w.cell? (ad.add j) = some u := by
  rcases r with r | ⟨b, off, cs, t, fr, ha, hb, hc⟩
  · exact absurd r hx
  · intro j u hu
    simp only [Option.some.injEq] at ha
    subst ha
    rw [add_at]
    exact cell_of hl hb (hc j u hu)

/-- APPEND TO AN OWN SLICE of what reads as ys. What is owned besides (M1 ≤ M) is let go but for the slice's own surroundings M0. -/
theorem Own.append {P : Program} {t ty e : TypeId} {i : TypeInfo} {z : Value} {E : Enc S} (ht : P.underlying t = some (.slice e)) (hi : P.info? e = some i) (hz : i.zero = some z)
    (hsz : i.size = E.sz) (hzs : z.cells.size = E.sz) {K : Key} {w : World} {h M M0 M1 : PH} {a : Option Addr} {cap : Nat} {xs ys : List S} (G : Wld K w h M) (hM : PH.le M1 M)
    (o : Own e E M0 M1 a cap xs) {hp : PH} (hl : PH.le hp (PH.all w)) {a2 : Option Addr} {c2 : Nat} (r : RS hp E a2 ys)
    (hmax : xs.length + ys.length ≤ maxLen) (hbytes : (xs.length + ys.length) * i.bytes ≤ 140737488355328) :
    ∃ a' cap' w' M', (Builtin.append_ #[t, t] ty #[.slice a xs.length cap, .slice a2 ys.length c2]).run P w = .ok (.slice a' (xs ++ ys).length cap') w' ∧
      Wld K w' h M' ∧ Own e E M0 M' a' cap' (xs ++ ys) ∧ (a' = none ↔ a = none ∧ ys = []) := by
  have hsmall : xs.length + ys.length ≤ 9223372036854775807 := by simp only [maxLen] at hmax; omega
  have G1 := G.drop hM
  by_cases hy : ys = []
  · subst hy
    refine ⟨a, cap, w, M1, ?_, G1, by simpa using o, by simp⟩
    rcases o with ⟨rfl, rfl, rfl, rfl⟩ | ⟨g, cur, rfl, h0, rfl, hx, hc, hs, htk⟩
    · cases a2 <;> simp [Builtin.append_, run_underlying ht, sizeOf, typeInfo, hi, Builtin.lenOf, Builtin.firstCells, loadCells, loadCellsFrom]
    · cases a2 <;> simp [Builtin.append_, run_underlying ht, sizeOf, typeInfo, hi, Builtin.lenOf, Builtin.firstCells, loadCells, loadCellsFrom, hx, storeCells]
  · obtain ⟨ad, rfl⟩ : ∃ ad, a2 = some ad := by
      rcases r with r | ⟨b, off, cs, t', fr, ha, _⟩
      · exact absurd r hy
      · exact ⟨_, ha⟩
    have hnews := r.cells hl hy
    have hlen : (flat E ys).length = ys.length * i.size := by rw [flat_length, hsz]
    have hpos : 0 < ys.length := List.length_pos_iff.2 hy
    have grown : ∀ (old : Nat), old < xs.length + ys.length →
        Wld K (w.drew.alloc (.cells ((flat E xs).toArray ++ (flat E ys).toArray ++ Builtin.zeroCells z.cells (grownCap w (xs.length + ys.length) old e - (xs.length + ys.length))) e)) h
          (M0.set w.heap.size (.cells ((flat E xs).toArray ++ (flat E ys).toArray ++ Builtin.zeroCells z.cells (grownCap w (xs.length + ys.length) old e - (xs.length + ys.length))) e)) ∧
        Own e E M0 (M0.set w.heap.size (.cells ((flat E xs).toArray ++ (flat E ys).toArray ++ Builtin.zeroCells z.cells (grownCap w (xs.length + ys.length) old e - (xs.length + ys.length))) e))
          (some ⟨w.heap.size, 0, none⟩) (grownCap w (xs.length + ys.length) old e) (xs ++ ys) := by
      intro old ho
      have hge := grownCap_ge w (xs.length + ys.length) old e
      have hcm := grownCap_le_maxLen w (xs.length + ys.length) old e hmax
      refine ⟨((G1.drop o.le).drew'.alloc _), .inr ⟨w.heap.size, _, rfl, (G1.drop o.le).new.1, rfl, by simpa using hge, hcm, ?_, ?_⟩⟩
      · simp only [Array.size_append, List.size_toArray, size_zeroCells, hzs, flat_length, ← Nat.add_mul]
        exact Nat.mul_le_mul_right _ (by omega)
      · simp only [Array.toList_append, List.append_assoc]
        rw [← List.append_assoc, ← flat_append, ← flat_length]
        exact List.take_left
    rcases o with ⟨rfl, rfl, rfl, rfl⟩ | ⟨g, cur, rfl, h0, rfl, hx, hc, hs, htk⟩
    · have hr := run_append_nil (P := P) w t ty e i z ht hi hz ad ys.length c2 (flat E ys) hlen hnews hpos (by simp at hsmall; omega) (by simp at hbytes; omega)
      have hg := grown 0 (by simp; omega)
      simp only [List.length_nil, Nat.zero_add, List.nil_append, flat, List.flatMap_nil, Array.empty_append] at hg hr ⊢
      exact ⟨_, _, _, _, hr, hg.1, hg.2, by simp [hy]⟩
    · by_cases hroom : xs.length + ys.length ≤ cap
      · have hb := G1.own _ _ (PH.set_same M0 g _)
        have hfit : xs.length * i.size + (flat E ys).length ≤ cur.size := Nat.le_trans (by rw [hlen, hsz, ← Nat.add_mul]; exact Nat.mul_le_mul_right _ hroom) hs
        have hr := run_append_room (P := P) w t ty e i ht hi g xs.length cap cur hb ad ys.length c2 (flat E ys) hlen hnews (flat_one E ys) hroom hfit
        have G2 := G1.setRow (cur.toList.take (xs.length * i.size) ++ flat E ys ++ cur.toList.drop (xs.length * i.size + (flat E ys).length)).toArray (PH.set_same M0 g _)
        rw [PH.set_set] at G2
        refine ⟨_, _, _, _, by rw [List.length_append]; exact hr, G2, .inr ⟨g, _, rfl, h0, rfl, by simpa using hroom, hc, ?_, ?_⟩, by simp⟩
        · simp only [List.size_toArray, List.length_append, List.length_take, List.length_drop, Array.length_toList]
          omega
        · rw [hsz, htk, ← flat_length, ← flat_append]
          exact List.take_left
      · have holds : ∀ j u, (flat E xs)[j]? = some u → w.cell? ((⟨g, 0, none⟩ : Addr).add j) = some u := fun j u hu => by
          have hb := G1.own _ _ (PH.set_same M0 g _)
          rw [← htk, List.getElem?_take] at hu
          split at hu
          · rw [add_at]; exact cell_of (PH.le_refl _) hb (by simpa using hu)
          · cases hu
        have hr := run_append_grow (P := P) w t ty e i z ht hi hz ⟨g, 0, none⟩ xs.length cap (flat E xs) (by rw [flat_length, hsz]) holds ad ys.length c2 (flat E ys) hlen hnews (by omega) (by omega) (growslice_fits (by omega) hbytes)
        have hg := grown cap (by omega)
        exact ⟨_, _, _, _, by rw [List.length_append]; exact hr, hg.1, hg.2, by simp⟩
end Go.Wk
