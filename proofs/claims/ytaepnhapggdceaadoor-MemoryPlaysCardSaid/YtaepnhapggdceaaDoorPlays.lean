/-
  'MemoryPlays' returns true whatever acts it is given; what it is given reads behind the call as ahead of it.
-/
import Derived.Test.YtaepnhapggdceaaDoorRows
import Derived.Test.YtaepnhapggdceaaDoorRg
import Derived.Test.YtaepnhapggdceaaDoorL5
import Derived.Test.YtaepnhapggdceaaDoorCards
import Derived.Test.YtaepnhapggdceaaDoorTie
import Derived.Deep.DeepHandedRow
import Derived.LaidSub
namespace Go.Proofs.YtaepnhapggdceaaDoor.memoryPlays
open Go.ChangeShapes Go.WideShapes Go.ChangeAt Go.RowKit Go.Wk Go.Proofs
set_option linter.unusedVariables false

theorem own : ownKnob Tryd.prog.godebug = none := by kernel_rfl
theorem laidOut : laidOutB Tryd.prog = true := by kernel_rfl
theorem table {W : World} (h : laidMetH Tryd.prog Rows.memoryPlaysRow.laid W) : Lib.TabIs Tryd.prog W "internal/strconv.uint64pow10" .u64 Lib.pow10Tab := by
  have h1 : laidMet Tryd.prog Rows.memoryPlaysRow.laid W := h
  have h2 := laidMet.filter (fun x => x.1 == "internal/strconv.uint64pow10") h1
  exact Lib.tabIs_of_head (g := 0) (t := 97) (e := 90) (n := 20) (rest := []) (by kernel_rfl) (by kernel_rfl) (by kernel_rfl) (by kernel_rfl) (by kernel_rfl) (by kernel_rfl) h2

theorem maxLen_le : maxLen ≤ 9223372036854775807 := by decide +kernel
theorem i64_rg {n : Int} (h : (Lit.int .i64 n).wf = true) : -9223372036854775808 ≤ n ∧ n ≤ 9223372036854775807 := by simpa [Lit.wf, IntKind.min, IntKind.max, IntKind.signed, IntKind.bits] using h
set_option maxRecDepth 100000 in
theorem val_open {H : Type} {enc : TypeId × Value → H} {sp : Nat → Bool} {hd : Bool} {W : World} {fuel : Nat} {cs : List Value} {x : DataW H × List MemPlace} (h : DataW.trod enc Tryd.prog W 0 sp hd fuel 29 cs = some x) : ∃ s, cs = valE.enc s ∧ RangeV s := by
  obtain ⟨ys, k, _, _, h1, h2, h3⟩ := DataW.trod_struct Tryd.underlying29 h
  match cs, h1 with
  | [v0, v1, v2], _ =>
    have e0 := h3 0 _ rfl
    have e1 := h3 1 _ rfl
    have e2 := h3 2 _ rfl
    match ys, h2 with
    | [y0, y1, y2], _ =>
      obtain ⟨n0, r0, _, w0⟩ := DataW.trod_int (cs := [v0]) (x := y0) Tryd.underlying3 e0
      obtain ⟨n1, r1, _, w1⟩ := DataW.trod_int (cs := [v1]) (x := y1) Tryd.underlying2 e1
      obtain ⟨s2, r2, _, w2⟩ := DataW.trod_string (cs := [v2]) (x := y2) Tryd.underlying9 e2
      simp only [List.cons.injEq, and_true] at r0 r1 r2
      subst r0; subst r1; subst r2
      exact ⟨⟨n0, n1, s2⟩, rfl, i64_rg w0, i64_rg w1, Nat.le_trans w2 maxLen_le⟩
set_option maxRecDepth 100000 in
theorem walk {H : Type} {enc : TypeId × Value → H} {sp : Nat → Bool} {hd : Bool} {W : World} (a : Option Addr) (n c : Nat) {fuel : Nat} {x : DataW H × List MemPlace} (hx : DataW.trod enc Tryd.prog W 0 sp hd fuel 48 [.slice a n c] = some x)
    (T : Tab Tryd.prog (PH.all W)) : Calls Tryd.prog 6 #[.slice a n c] W fun e w' => e = .returned (.bool true) ∧ Below W.heap.size W w' := by
  obtain ⟨a', xs, c', he, hr, hg, hl, hm⟩ := open_rsG (E := actE) (actG (PH.all W)) Tryd.underlying48 (by kernel_rfl) (fun fuel cs x h => by
    obtain ⟨ys, k, _, _, h1, h2, h3⟩ := DataW.trod_struct Tryd.underlying50 h
    match cs, h1 with
    | [v0, v1, v2, v3], _ =>
      have e0 := h3 0 _ rfl
      have e1 := h3 1 _ rfl
      have e2 := h3 2 _ rfl
      have e3 := h3 3 _ rfl
      match ys, h2 with
      | [y0, y1, y2, y3], _ =>
        obtain ⟨n0, r0, _, w0⟩ := DataW.trod_int (cs := [v0]) (x := y0) Tryd.underlying3 e0
        obtain ⟨n1, r1, _, w1⟩ := DataW.trod_int (cs := [v1]) (x := y1) Tryd.underlying3 e1
        obtain ⟨s2, r2, _, w2⟩ := DataW.trod_string (cs := [v2]) (x := y2) Tryd.underlying9 e2
        obtain ⟨a3, xs3, c3, r3, g3, g4, g5, g6⟩ := open_rsG (E := valE) RangeV (cs := [v3]) (x := y3) Tryd.underlying31 (by kernel_rfl) (fun fuel cs x h => val_open h) e3
        simp only [List.cons.injEq, and_true] at r0 r1 r2 r3
        subst r0; subst r1; subst r2; subst r3
        exact ⟨⟨n0, n1, s2, a3, xs3, c3⟩, rfl, g3, g4, i64_rg w1⟩) hx
  simp only [List.cons.injEq, Value.slice.injEq, and_true] at he
  obtain ⟨rfl, rfl, rfl⟩ := he
  refine (plays_spec (wld_start W) T hr hg (Nat.le_trans hl (Nat.le_trans hm maxLen_le))).mono fun e w' hw => ?_
  obtain ⟨h', M', v, rfl, hl, G, _, rfl⟩ := hw
  exact ⟨rfl, below_of G hl⟩

def layCells (cs : Array Value) (o : Obj) : Obj := match o with | .cells _ t frozen => .cells cs t frozen | o => o
/-- A world for the witness. -/
noncomputable def laidWorld (os : Os) : World :=
  { World.holding Tryd.prog os ⟨#[], #[], []⟩ with heap := ((((World.holding Tryd.prog os ⟨#[], #[], []⟩).heap.modify 0 (layCells #[.int .u64 1, .int .u64 10, .int .u64 100, .int .u64 1000, .int .u64 10000, .int .u64 100000, .int .u64 1000000, .int .u64 10000000, .int .u64 100000000, .int .u64 1000000000, .int .u64 10000000000, .int .u64 100000000000, .int .u64 1000000000000, .int .u64 10000000000000, .int .u64 100000000000000, .int .u64 1000000000000000, .int .u64 10000000000000000, .int .u64 100000000000000000, .int .u64 1000000000000000000, .int .u64 10000000000000000000])).modify 1 (layCells #[.int .u8 0, .int .u8 1, .int .u8 28, .int .u8 2, .int .u8 29, .int .u8 14, .int .u8 24, .int .u8 3, .int .u8 30, .int .u8 22, .int .u8 20, .int .u8 15, .int .u8 25, .int .u8 17, .int .u8 4, .int .u8 8, .int .u8 31, .int .u8 27, .int .u8 13, .int .u8 23, .int .u8 21, .int .u8 19, .int .u8 16, .int .u8 7, .int .u8 26, .int .u8 12, .int .u8 18, .int .u8 6, .int .u8 11, .int .u8 5, .int .u8 10, .int .u8 9])).modify 2 (layCells #[.int .u8 0, .int .u8 1, .int .u8 56, .int .u8 2, .int .u8 57, .int .u8 49, .int .u8 28, .int .u8 3, .int .u8 61, .int .u8 58, .int .u8 42, .int .u8 50, .int .u8 38, .int .u8 29, .int .u8 17, .int .u8 4, .int .u8 62, .int .u8 47, .int .u8 59, .int .u8 36, .int .u8 45, .int .u8 43, .int .u8 51, .int .u8 22, .int .u8 53, .int .u8 39, .int .u8 33, .int .u8 30, .int .u8 24, .int .u8 18, .int .u8 12, .int .u8 5, .int .u8 63, .int .u8 55, .int .u8 48, .int .u8 27, .int .u8 60, .int .u8 41, .int .u8 37, .int .u8 16, .int .u8 46, .int .u8 35, .int .u8 44, .int .u8 21, .int .u8 52, .int .u8 32, .int .u8 23, .int .u8 11, .int .u8 54, .int .u8 26, .int .u8 40, .int .u8 15, .int .u8 34, .int .u8 20, .int .u8 31, .int .u8 10, .int .u8 25, .int .u8 14, .int .u8 19, .int .u8 9, .int .u8 13, .int .u8 8, .int .u8 7, .int .u8 6])) }
theorem laid_met (os : Os) : laidMet Tryd.prog Rows.memoryPlaysRow.laid ((laidWorld os).forCall (fun _ _ => 0) ⟨#[], #[.slice none 0 0], []⟩).memory :=
  laidMet_of_run' 8 (by kernel_rfl) (by kernel_rfl)
theorem reads (os : Os) {H : Type} (enc : TypeId × Value → H) : ∃ places, DataW.whole enc Tryd.prog ((laidWorld os).forCall (fun _ _ => 0) ⟨#[], #[.slice none 0 0], []⟩).memory Tryd.f6.params.toList Rows.memoryPlaysSpec.vars false (#[.slice none 0 0] : Array Value).toList 8 = some ([.nil], [], places) :=
  ⟨[], by kernel_rfl⟩

set_option maxRecDepth 100000 in
theorem lifted (os : Os) (started : os.Started) (H : Type) (enc : TypeId × Value → H) (F : Stop.Interp) :
    ReturnsInHanded {} Tryd.checked os 6 .any ((OpenSpec.ofChange Rows.memoryPlaysSpec).preRow enc Tryd.prog Tryd.f6 Rows.memoryPlaysRow.domain false Rows.memoryPlaysRow.laid) (((OpenSpec.ofChange Rows.memoryPlaysSpec).at F).post enc Tryd.prog Tryd.f6 false true false false) := by
  obtain ⟨places, hx⟩ := reads os enc
  refine returnsInHanded_of_row (C := Tryd.checked) (s := OpenSpec.ofChange Rows.memoryPlaysSpec) own started (by kernel_rfl) Tryd.func6
    (witness_row_at (enc := enc) (C := Tryd.checked) false (laidWorld os) #[.slice none 0 0] rfl (by kernel_rfl) (by kernel_rfl) (by kernel_rfl)
      (OpenSpec.preRow_of_cond 8 hx (by kernel_rfl) (fun k hk => by cases hk) (by kernel_rfl) (laid_met os))) ?_
  intro W base args ds gs before hval0 hW _ _ _ hL _ _
  have hval : ∀ (j : Nat) t v, Tryd.f6.params[j]? = some t → args[j]? = some v → Value.okWide Tryd.prog W .any base t v := hval0
  have hW' := hW
  obtain ⟨p, q, hA0, hV, rfl, hfz, hnd⟩ := hW
  have hA : DataW.TrodAll enc Tryd.prog W 0 (fun _ => true) true Tryd.f6.params.toList args.toList ds p := hA0
  rw [Tryd.params6] at hA hval
  obtain ⟨v0, vs0, d0, ds0, p0, q0, hargs, rfl, rfl, h0, r0⟩ := trodAll_cons hA
  obtain ⟨rfl, rfl, rfl⟩ := trodAll_nil r0
  obtain rfl : args = #[v0] := by cases args; simp_all
  obtain ⟨rfl, rfl⟩ := trodVars_none hV
  obtain ⟨a0, n0, c0, rfl⟩ := okWide_slice Tryd.underlying48 (hval 0 48 v0 rfl rfl)
  clear hA0 hval0
  obtain ⟨fuel, h0⟩ := h0
  refine (walk a0 n0 c0 h0 (Tab.of (table hL))).mono fun e W' ⟨he, hb⟩ => ?_
  subst he
  exact ⟨_, rfl, post_true laidOut Tryd.underlying4 (by kernel_rfl) (by decide +kernel) hW' rfl rfl hb⟩

theorem said : Rows.MemoryPlaysSaid :=
  OpenClaim.holds_of_cond 6 Tryd.f6 rfl rfl rfl rfl rfl rfl rfl ⟨rfl, rfl, rfl, rfl, rfl⟩ rfl rfl rfl rfl rfl (by kernel_rfl) Tryd.func6 (by kernel_rfl)
    (of_decide_eq_true (by kernel_rfl)) (by unfold Func.isWrapper; first | (rw [if_pos (by decide +kernel)]; kernel_rfl) | (rw [if_neg (by decide +kernel)]; exact ⟨rfl, rfl⟩))
    (fun os started H enc _ F => by rw [OpenClaim.pre_eq_preRow]; exact lifted os started H enc F)
theorem plain (f : FuncId) (fn : Func) (hf : Tryd.pinned.checked.prog.funcNamed "whelk/whelklaw10.MemoryPlays" = some f) (hfn : Tryd.pinned.checked.prog.funcs[f]? = some fn) :
    false = Tryd.pinned.checked.prog.looks [] ∧ ∀ (j : Nat) t, fn.params[j]? = some t → Tryd.pinned.checked.prog.wantsStandIn t = false := by
  obtain rfl : f = 6 := Option.some.inj ((show Tryd.prog.funcNamed "whelk/whelklaw10.MemoryPlays" = some 6 by kernel_rfl).symm.trans hf) |>.symm
  obtain rfl : fn = Tryd.f6 := (Option.some.inj (Tryd.func6.symm.trans hfn)).symm
  refine ⟨by kernel_rfl, fun j t ht => ?_⟩
  rw [Tryd.params6] at ht
  have hm := Array.mem_of_getElem? ht
  have hall : ∀ t ∈ (#[48] : Array TypeId), Tryd.prog.wantsStandIn t = false := by decide +kernel
  exact hall t hm
/-- The card. -/
theorem card : Rows.MemoryPlaysCardSaid :=
  Claim7.holds_tied_plain_at .later [] _ _ _ _ said (fun _ h => by cases h) (by kernel_rfl) (fun _ h => by cases h) memoryPlays_row_tie rfl ⟨rfl, rfl⟩ (by kernel_rfl) rfl plain (by kernel_rfl)
#print axioms card
end Go.Proofs.YtaepnhapggdceaaDoor.memoryPlays
