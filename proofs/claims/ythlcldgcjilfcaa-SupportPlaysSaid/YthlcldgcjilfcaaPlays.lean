/-
  'SupportPlays' returns true whatever acts it is given; what it is given reads behind the call as ahead of it. No condition.
-/
import Derived.Test.YthlcldgcjilfcaaRows
import Derived.Test.YthlcldgcjilfcaaRg
import Derived.Test.YthlcldgcjilfcaaW6
namespace Go.Proofs.Ythlcldgcjilfcaa.supportPlays
open Go.ChangeShapes Go.WideShapes Go.ChangeAt Go.RowKit Go.Wk Go.Proofs
set_option linter.unusedVariables false

theorem own : ownKnob Try.prog.godebug = none := by kernel_rfl
theorem laidOut : laidOutB Try.prog = true := by kernel_rfl
theorem maxLen_le : maxLen ≤ 9223372036854775807 := by decide +kernel
theorem i64_rg {n : Int} (h : (Lit.int .i64 n).wf = true) : -9223372036854775808 ≤ n ∧ n ≤ 9223372036854775807 := by simpa [Lit.wf, IntKind.min, IntKind.max, IntKind.signed, IntKind.bits] using h
set_option maxRecDepth 100000 in
theorem why_open {H : Type} {enc : TypeId × Value → H} {sp : Nat → Bool} {hd : Bool} {W : World} {fuel : Nat} {cs : List Value} {x : DataW H × List MemPlace} (h : DataW.trod enc Try.prog W 0 sp hd fuel 28 cs = some x) :
    ∃ s, cs = whyP.enc s ∧ whyR (PH.all W) s ∧ s.facts.length ≤ 9223372036854775807 := by
  obtain ⟨ys, k, _, _, h1, h2, h3⟩ := DataW.trod_struct Try.underlying28 h
  match cs, h1 with
  | [v0, v1, v2], _ =>
    have e0 := h3 0 _ rfl
    have e1 := h3 1 _ rfl
    have e2 := h3 2 _ rfl
    match ys, h2 with
    | [y0, y1, y2], _ =>
      obtain ⟨n0, r0, _, w0⟩ := DataW.trod_int (cs := [v0]) (x := y0) Try.underlying3 e0
      obtain ⟨n1, r1, _, w1⟩ := DataW.trod_int (cs := [v1]) (x := y1) Try.underlying3 e1
      obtain ⟨a3, xs3, c3, r3, g3, g4, g5⟩ := open_rs (E := intE) (cs := [v2]) (x := y2) Try.underlying26 (by kernel_rfl) (fun fuel cs x h => by
        obtain ⟨n, r, _⟩ := DataW.trod_int Try.underlying3 h; exact ⟨n, r⟩) e2
      simp only [List.cons.injEq, and_true] at r0 r1 r3
      subst r0; subst r1; subst r3
      exact ⟨⟨n0, n1, a3, xs3, c3⟩, rfl, g3, Nat.le_trans g4 (Nat.le_trans g5 maxLen_le)⟩
set_option maxRecDepth 100000 in
theorem walk {H : Type} {enc : TypeId × Value → H} {sp : Nat → Bool} {hd : Bool} (w : World) (a : Option Addr) (n c : Nat) {fuel : Nat} {x : DataW H × List MemPlace}
    (h : DataW.trod enc Try.prog w 0 sp hd fuel 37 [.slice a n c] = some x) : Calls Try.prog 4 #[.slice a n c] w fun e w' => e = .returned (.bool true) ∧ Below w.heap.size w w' := by
  obtain ⟨a', xs, c', he, hr, hg, hl, hm⟩ := open_rsG (E := actE) (fun s => actG (PH.all w) s ∧ (-9223372036854775808 ≤ s.fact ∧ s.fact ≤ 9223372036854775807) ∧ s.w.facts.length ≤ 9223372036854775807) Try.underlying37 (by kernel_rfl) (fun fuel cs x h => by
    obtain ⟨ys, k, _, hlen, h1, h2, h3⟩ := DataW.trod_struct Try.underlying40 h
    match cs, h1 with
    | [v0, v1, v2, v3, v4], _ =>
      have e0 := h3 0 _ rfl
      have e1 := h3 1 _ rfl
      have e2 := h3 2 _ rfl
      match ys, h2 with
      | [y0, y1, y2], _ =>
        obtain ⟨n0, r0, _, w0⟩ := DataW.trod_int (cs := [v0]) (x := y0) Try.underlying3 e0
        obtain ⟨n1, r1, _, w1⟩ := DataW.trod_int (cs := [v1]) (x := y1) Try.underlying3 e1
        obtain ⟨s, r2, g1, g2⟩ := why_open (cs := [v2, v3, v4]) (x := y2) e2
        simp only [whyP, whyE, List.cons.injEq, and_true] at r0 r1 r2
        obtain ⟨q2, q3, q4⟩ := r2
        subst r0; subst r1; subst q2; subst q3; subst q4
        exact ⟨⟨n0, n1, s⟩, rfl, g1, i64_rg w1, g2⟩) h
  simp only [List.cons.injEq, Value.slice.injEq, and_true] at he
  obtain ⟨rfl, rfl, rfl⟩ := he
  refine (plays_spec (wld_start w) hr (fun s hs => (hg s hs).1) (Nat.le_trans hl (Nat.le_trans hm maxLen_le)) (fun s hs => (hg s hs).2)).mono fun e w' hw => ?_
  obtain ⟨h', M', v, rfl, hl, G, _, rfl⟩ := hw
  exact ⟨rfl, below_of G hl⟩
set_option maxRecDepth 100000 in
theorem lifted (os : Os) (started : os.Started) (H : Type) (enc : TypeId × Value → H) :
    ReturnsInHanded {} Try.checked os 4 .any (Rows.supportPlaysSpec.pre6 enc Try.prog Try.f4 Rows.supportPlaysRow.domain false) (Rows.supportPlaysSpec.post enc Try.prog Try.f4 false true false false) := by
  refine returnsInHanded_of_change (C := Try.checked) own started (by kernel_rfl) Try.func4
    (ChangeSpec.witness6 (enc := enc) (C := Try.checked) false ⟨#[], #[.slice none 0 0], []⟩ 8 (by kernel_rfl) (by kernel_rfl) (by kernel_rfl) (by kernel_rfl)) ?_
  intro W base args ds gs before hval0 hW hcnd _
  have hval : ∀ (j : Nat) t v, Try.f4.params[j]? = some t → args[j]? = some v → Value.okWide Try.prog W .any base t v := hval0
  have hW' := hW
  obtain ⟨p, q, hA0, hV, rfl, hfz, hnd⟩ := hW
  have hA : DataW.TrodAll enc Try.prog W 0 (fun _ => true) true Try.f4.params.toList args.toList ds p := hA0
  rw [Try.params4] at hA hval
  obtain ⟨v0, vs0, d0, ds0, p0, q0, hargs, rfl, rfl, h0, r0⟩ := trodAll_cons hA
  obtain ⟨rfl, rfl, rfl⟩ := trodAll_nil r0
  obtain rfl : args = #[v0] := by cases args; simp_all
  obtain ⟨rfl, rfl⟩ := trodVars_none hV
  obtain ⟨a, n, c, rfl⟩ := okWide_slice Try.underlying37 (hval 0 37 v0 rfl rfl)
  clear hA0 hval0
  obtain ⟨fuel, h0⟩ := h0
  refine (walk W a n c h0).mono fun e W' ⟨he, hb⟩ => ?_
  subst he
  exact ⟨_, rfl, post_true laidOut Try.underlying4 (by kernel_rfl) (by decide +kernel) hW' rfl rfl hb⟩

theorem over : Rows.supportPlaysRow.holds Try.pinned (OpenSpec.ofChange Rows.supportPlaysSpec) :=
  OpenClaim.holds_of_wide 4 Try.f4 rfl rfl rfl rfl rfl rfl rfl ⟨rfl, rfl, rfl, rfl, rfl⟩ rfl rfl rfl rfl rfl (by kernel_rfl) Try.func4 (by kernel_rfl)
    (of_decide_eq_true (by kernel_rfl)) (by unfold Func.isWrapper; first | (rw [if_pos (by decide +kernel)]; kernel_rfl) | (rw [if_neg (by decide +kernel)]; exact ⟨rfl, rfl⟩))
    (fun os started H enc _ => lifted os started H enc)
/-- The statement. -/
theorem proved : Rows.SupportPlaysSaid :=
  over
#print axioms proved
end Go.Proofs.Ythlcldgcjilfcaa.supportPlays
