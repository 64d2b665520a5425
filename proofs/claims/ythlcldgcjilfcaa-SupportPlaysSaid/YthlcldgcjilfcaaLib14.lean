/-
  The calculus, fourteenth part: strings.Builder as a laid part; all of memory that a call does not own.
-/
import Derived.Test.YthlcldgcjilfcaaLib13
import Derived.Lib.Builder
import Derived.Lib.UnsafeStr
namespace Go.Wk
open Go

/-- All that lay there ahead of block B is read-only or owned. -/
structure Full (B : Nat) (h M : PH) : Prop where
  lt : ∀ b, h b ≠ none ∨ M b ≠ none → b < B
  ge : ∀ b, h b = none → M b = none → B ≤ b
/-- The read-only part of a world, as large as may be. -/
def fullOf (w : World) (M : PH) : PH := fun b => match M b with | some _ => none | none => w.heap[b]?
section
variable {K : Key} {w : World} {h M : PH}
theorem Wld.full (G : Wld K w h M) : Wld K w (fullOf w M) M ∧ PH.le h (fullOf w M) ∧ Full w.heap.size (fullOf w M) M := by
  refine ⟨⟨G.key, fun b o e => ?_, G.own, fun b o e => ?_⟩, fun b o e => ?_, ⟨fun b hb => ?_, fun b h1 h2 => ?_⟩⟩
  · unfold fullOf at e
    split at e
    · cases e
    · exact e
  · unfold fullOf; rw [e]
  · have hM : M b = none := by
      cases hb : M b with
      | none => rfl
      | some x => rw [G.dis b x hb] at e; cases e
    unfold fullOf; rw [hM]; exact G.imm b o e
  · rcases hb with hb | hb
    · unfold fullOf at hb
      split at hb
      · exact absurd rfl hb
      · obtain ⟨x, hx⟩ := Option.ne_none_iff_exists'.1 hb; exact all_lt (w := w) hx
    · obtain ⟨x, hx⟩ := Option.ne_none_iff_exists'.1 hb; exact all_lt (G.own b x hx)
  · unfold fullOf at h1; rw [h2] at h1
    simp only at h1
    rcases Nat.lt_or_ge b w.heap.size with q | q
    · rw [Array.getElem?_eq_getElem q] at h1; cases h1
    · exact q
theorem Ret.less {h1 : PH} (hl : PH.le h h1) {Φ : PH → Value → Prop} {e : Ending} {w' : World} (r : Ret K h1 M Φ e w') : Ret K h M Φ e w' := by
  obtain ⟨h', M', v, he, hl', G, hΦ⟩ := r
  exact ⟨h', M', v, he, hl.trans hl', G, hΦ⟩
theorem RetM.less {h1 : PH} (hl : PH.le h h1) {Φ : PH → PH → Value → Prop} {e : Ending} {w' : World} (r : RetM K h1 Φ e w') : RetM K h Φ e w' := by
  obtain ⟨h', M', v, he, hl', G, hΦ⟩ := r
  exact ⟨h', M', v, he, hl.trans hl', G, hΦ⟩
end

theorem flat_bytE (s : List UInt8) : flat bytE s = Lib.byteCells s := by
  unfold flat Lib.byteCells
  induction s with
  | nil => rfl
  | cons x r ih => simp only [List.flatMap_cons, List.map_cons, ih]; rfl

/-- A strings.Builder at b that holds s. -/
def BldL (T e : TypeId) (b : Nat) (s : List UInt8) : PH → PH → Prop := fun M0 M => ∃ p a c M1, Blk b (.cells #[p, .slice a s.length c] T (0, 0)) M0 M1 ∧ (p = .pointer none ∨ p = .pointer (some ⟨b, 0, none⟩)) ∧ OwnB e M1 M a c s
theorem Ly.bldL (T e : TypeId) (b : Nat) (s : List UInt8) : Ly (BldL T e b s) := by
  have hL : Ly (fun M0 M => ∃ p a c, (p = Value.pointer none ∨ p = .pointer (some ⟨b, 0, none⟩)) ∧ Star (Blk b (.cells #[p, .slice a s.length c] T (0, 0))) (fun M0 M => OwnB e M0 M a c s) M0 M) :=
    Ly.exists fun _ => Ly.exists fun _ => Ly.exists fun _ => Ly.pand (Ly.star (Ly.blk _ _) (Ly.ownB _ _ _ _))
  have to : ∀ {N0 N : PH}, BldL T e b s N0 N ↔ (∃ p a c, (p = Value.pointer none ∨ p = .pointer (some ⟨b, 0, none⟩)) ∧ Star (Blk b (.cells #[p, .slice a s.length c] T (0, 0))) (fun M0 M => OwnB e M0 M a c s) N0 N) := by
    intro N0 N
    constructor
    · rintro ⟨p, a, c, M1, B, hp, O⟩; exact ⟨p, a, c, hp, M1, B, O⟩
    · rintro ⟨p, a, c, hp, M1, B, O⟩; exact ⟨p, a, c, M1, B, hp, O⟩
  intro M0 M A
  obtain ⟨F, l, s, k⟩ := hL M0 M (to.1 A)
  exact ⟨F, l, s, fun N0 N l' hN => to.2 (k N0 N l' hN)⟩
theorem BldL.new {T e : TypeId} {b : Nat} {M0 M : PH} (B : Blk b (.cells #[.pointer none, .slice none 0 0] T (0, 0)) M0 M) : BldL T e b [] M0 M :=
  ⟨_, none, 0, M, B, .inl rfl, OwnB.nil _ _⟩
theorem BldL.is {T e : TypeId} {b B : Nat} {s : List UInt8} {h M h1 M2 : PH} {K : Key} {w : World} (F : Full B h M) (hl : PH.le h h1) (G : Wld K w h1 M2) (A : BldL T e b s M M2) :
    Lib.IsBuilder T e B b (Lib.byteCells s) w := by
  obtain ⟨p, a, c, M1, Bk, hp, O⟩ := A
  have hn : ∀ g, M g = none → M2 g ≠ none → B ≤ g := fun g h0 h2 => by
    obtain ⟨x, hx⟩ := Option.ne_none_iff_exists'.1 h2
    refine F.ge g ?_ h0
    cases hg : h g with
    | none => rfl
    | some y => have := hl g y hg; rw [G.dis g x hx] at this; cases this
  have hb2 := O.le _ _ Bk.at
  have hBb : B ≤ b := hn b Bk.1 (by rw [hb2]; simp)
  have hlen : (Lib.byteCells s).length = s.length := Lib.byteCells_length s
  have key : Lib.BuilderAt T e B b p (Lib.byteCells s) w := by
    refine ⟨hBb, _, G.own _ _ hb2, ?_, ?_⟩
    · rw [hlen]
      refine ⟨by rw [hlen, Nat.mul_one], ?_⟩
      rcases O with ⟨rfl, rfl, rfl, rfl⟩ | ⟨g, cur, rfl, h0, rfl, hx, hc, hs, ht⟩
      · exact .inl ⟨rfl, rfl⟩
      · have hsz : bytE.sz = 1 := rfl
        refine .inr ⟨g, c, cur, rfl, hn g (none_of_le Bk.le h0) (by simp [PH.set]), G.own _ _ (PH.set_same _ _ _), hx, hc, by rw [hs, hsz], ?_⟩
        rw [← flat_bytE, ← ht, hsz]
    · rcases O with ⟨rfl, _, _, _⟩ | ⟨g, cur, rfl, h0, rfl, _⟩
      · simp [Value.ownBlock]
      · have := Bk.at
        simp only [Value.ownBlock, ne_eq, Option.some.injEq]
        intro e'; subst e'; rw [h0] at this; cases this
  rcases hp with rfl | rfl
  · exact .inl key
  · exact .inr key
/-- Behind a call that leaves all ahead of B. -/
theorem Wld.back {B : Nat} {h M h1 M2 : PH} {K : Key} {w w' : World} (F : Full B h M) (hl : PH.le h h1) (hm : PH.le M M2) (G : Wld K w h1 M2) (hb : RowKit.Below B w w') (hd : ∀ b o, M b = some o → h b = none) : Wld K w' h M := by
  refine ⟨?_, fun b o e => ?_, fun b o e => ?_, hd⟩
  · rw [← G.key]; simp [keyOf, hb.os, hb.tape, hb.output]
  · have h1 := G.imm _ _ (hl _ _ e)
    simp only [PH.all] at h1 ⊢
    rw [hb.block b (F.lt b (.inl (by rw [e]; simp)))]; exact h1
  · have h1 := G.own _ _ (hm _ _ e)
    simp only [PH.all] at h1 ⊢
    rw [hb.block b (F.lt b (.inr (by rw [e]; simp)))]; exact h1
theorem Full.size {B : Nat} {h M h1 M2 : PH} {K : Key} {w : World} (F : Full B h M) (hl : PH.le h h1) (hm : PH.le M M2) (G : Wld K w h1 M2) : B ≤ w.heap.size := by
  rcases Nat.eq_zero_or_pos B with h0 | h0
  · omega
  · have hx : h (B - 1) ≠ none ∨ M (B - 1) ≠ none := by
      rcases Classical.em (h (B - 1) = none) with q | q
      · rcases Classical.em (M (B - 1) = none) with q2 | q2
        · have := F.ge _ q q2; omega
        · exact .inr q2
      · exact .inl q
    have : B - 1 < w.heap.size := by
      rcases hx with hx | hx
      · obtain ⟨x, hx⟩ := Option.ne_none_iff_exists'.1 hx; exact all_lt (G.imm _ _ (hl _ _ hx))
      · obtain ⟨x, hx⟩ := Option.ne_none_iff_exists'.1 hx; exact all_lt (G.own _ _ (hm _ _ hx))
    omega
end Go.Wk
