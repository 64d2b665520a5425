/-
  Supports and a table of rows: plain data, and how it lies.
-/
import Derived.Test.YthlcldgcjilfcaaLib16
import Derived.Test.YthlcldgcjilfcaaSl
namespace Go.Wk
open Go

/-- A support: 'a', 'c': where its facts stand. -/
structure WhyD where
  rule : Int
  alt : Int
  a : Option Addr
  facts : List Int
  c : Nat
def whyE : Enc WhyD := ⟨3, fun t => [.int .i64 t.rule, .int .i64 t.alt, .slice t.a t.facts.length t.c], ⟨0, 0, none, [], 0⟩, by decide, fun _ => rfl, fun _ v hv => by
  simp only [List.mem_cons, List.not_mem_nil, or_false] at hv; rcases hv with rfl | rfl | rfl <;> rfl⟩
abbrev whyO : Enc WhyD := whyE
/-- Its facts stand there. -/
def whyG (h : PH) (f : WhyD) : Prop := RS h intE f.a f.facts ∧ f.facts.length ≤ 20
theorem whyG.mono {h h' : PH} (hl : PH.le h h') (f : WhyD) (g : whyG h f) : whyG h' f := ⟨RS.mono g.1 hl, g.2⟩
theorem whyG.dflt (h : PH) : whyG h whyE.dflt := ⟨.inl rfl, by decide⟩
abbrev WD := Int × Int × List Int
def datW (w : WhyD) : WD := (w.rule, w.alt, w.facts)
def sameW (x y : WhyD) : Bool := decide (datW x = datW y)
theorem sameW_iff {x y : WhyD} : sameW x y = true ↔ datW x = datW y := by simp [sameW]
theorem sameW_ne {x y : WhyD} : sameW x y = false ↔ datW x ≠ datW y := by simp [sameW]
theorem sameW_no {x y : WhyD} (h : x.rule ≠ y.rule ∨ x.alt ≠ y.alt ∨ x.facts ≠ y.facts) : sameW x y = false := by
  rw [sameW_ne]; intro e; simp only [datW, Prod.mk.injEq] at e
  obtain ⟨e1, e2, e3⟩ := e
  rcases h with h | h | h
  · exact h e1
  · exact h e2
  · exact h e3
theorem sameW_r {x y : WhyD} (h1 : x.rule = y.rule) (h2 : x.alt = y.alt) : sameW x y = decide (x.facts = y.facts) := by
  unfold sameW datW; simp [h1, h2]
def sameL (xs ys : List Int) : Bool := decide (xs = ys)
theorem sameL_t {xs ys : List Int} (hl : xs.length = ys.length) (h : ∀ j < xs.length, xs.getD j 0 = ys.getD j 0) : sameL xs ys = true := by
  refine decide_eq_true (List.ext_getElem hl fun j h1 h2 => ?_)
  have := h j h1
  simpa [List.getD, h1, h2] using this
theorem sameL_f {xs ys : List Int} (h : xs.length ≠ ys.length ∨ ∃ k, k < xs.length ∧ xs.getD k 0 ≠ ys.getD k 0) : sameL xs ys = false := by
  refine decide_eq_false fun e => ?_
  subst e
  rcases h with h | ⟨k, hk, h⟩
  · exact h rfl
  · exact h rfl

/-- A row of a table, at block p. -/
structure RowD where
  p : Nat
  fact : Int
  free : Bool
  a : Option Addr
  c : Nat
  ws : List WhyD
def rowD0 : RowD := ⟨0, 0, false, none, 0, []⟩
def rowEnt (r : RowD) : Int × Value := (r.fact, .pointer (some ⟨r.p, 0, none⟩))
def rowA (r : RowD) : PH → PH → Prop := Star (Blk r.p (.cells #[.bool r.free, .slice r.a r.ws.length r.c] 58 (0, 0))) (fun M0 M => Own 28 whyE M0 M r.a r.c r.ws)
theorem Ly.rowA (r : RowD) : Ly (rowA r) := Ly.star (Ly.blk _ _) (Ly.own _ _ _ _)
/-- A table but for all that came. -/
def HeadL (t : Nat) (cv : Value) (rs : List RowD) : PH → PH → Prop := fun M0 M => ∃ bm es clk M1 M2,
  Blk t (.cells #[.map (some bm), cv] 53 (0, 0)) M0 M1 ∧ Blk bm (.map es clk) M1 M2 ∧ StarL rowA rs M2 M ∧ MapIs (.int .i64) intK es clk (rs.map rowEnt)
structure TabOk (h : PH) (rs : List RowD) (came : List WhyD) (n : Nat) : Prop where
  rows : ∀ r ∈ rs, ∀ w ∈ r.ws, whyG h w
  all : ∀ w ∈ came, whyG h w
  nodup : (rs.map (·.fact)).Nodup
  i64 : ∀ r ∈ rs, -9223372036854775808 ≤ r.fact ∧ r.fact ≤ 9223372036854775807
  len : rs.length ≤ n
  lens : ∀ r ∈ rs, r.ws.length ≤ n
  lenc : came.length ≤ n
def TabL (h : PH) (t : Nat) (rs : List RowD) (came : List WhyD) (n : Nat) : PH → PH → Prop := fun M0 M => ∃ ca cc M1,
  HeadL t (.slice ca came.length cc) rs M0 M1 ∧ Own 28 whyE M1 M ca cc came ∧ TabOk h rs came n
theorem Ly.headL (t : Nat) (cv : Value) (rs : List RowD) : Ly (HeadL t cv rs) := by
  have hL : Ly (fun M0 M => ∃ bm es clk, (Star (Blk t (.cells #[.map (some bm), cv] 53 (0, 0))) (Star (Blk bm (.map es clk)) (StarL Wk.rowA rs))) M0 M ∧ MapIs (.int .i64) intK es clk (rs.map rowEnt)) :=
    Ly.exists fun _ => Ly.exists fun _ => Ly.exists fun _ => Ly.and (Ly.star (Ly.blk _ _) (Ly.star (Ly.blk _ _) (Ly.starL Ly.rowA _)))
  have to : ∀ {N0 N : PH}, HeadL t cv rs N0 N ↔ (∃ bm es clk, (Star (Blk t (.cells #[.map (some bm), cv] 53 (0, 0))) (Star (Blk bm (.map es clk)) (StarL Wk.rowA rs))) N0 N ∧ MapIs (.int .i64) intK es clk (rs.map rowEnt)) := by
    intro N0 N
    constructor
    · rintro ⟨bm, es, clk, M1, M2, B1, B2, S, m⟩; exact ⟨bm, es, clk, ⟨M1, B1, M2, B2, S⟩, m⟩
    · rintro ⟨bm, es, clk, ⟨M1, B1, M2, B2, S⟩, m⟩; exact ⟨bm, es, clk, M1, M2, B1, B2, S, m⟩
  intro M0 M A
  obtain ⟨F, l, s, k⟩ := hL M0 M (to.1 A)
  exact ⟨F, l, s, fun N0 N l' hN => to.2 (k N0 N l' hN)⟩
theorem Ly.tabL (h : PH) (t : Nat) (rs : List RowD) (came : List WhyD) (n : Nat) : Ly (TabL h t rs came n) := by
  have hL : Ly (fun M0 M => ∃ ca cc, (Star (HeadL t (.slice ca came.length cc) rs) (fun M0 M => Own 28 whyE M0 M ca cc came)) M0 M ∧ TabOk h rs came n) :=
    Ly.exists fun _ => Ly.exists fun _ => Ly.and (Ly.star (Ly.headL _ _ _) (Ly.own _ _ _ _))
  have to : ∀ {N0 N : PH}, TabL h t rs came n N0 N ↔ (∃ ca cc, (Star (HeadL t (.slice ca came.length cc) rs) (fun M0 M => Own 28 whyE M0 M ca cc came)) N0 N ∧ TabOk h rs came n) := by
    intro N0 N
    constructor
    · rintro ⟨ca, cc, M1, A, O, k⟩; exact ⟨ca, cc, ⟨M1, A, O⟩, k⟩
    · rintro ⟨ca, cc, ⟨M1, A, O⟩, k⟩; exact ⟨ca, cc, M1, A, O, k⟩
  intro M0 M A
  obtain ⟨F, l, s, k⟩ := hL M0 M (to.1 A)
  exact ⟨F, l, s, fun N0 N l' hN => to.2 (k N0 N l' hN)⟩
theorem TabOk.mono {h h' : PH} {rs : List RowD} {came : List WhyD} {n : Nat} (hl : PH.le h h') (k : TabOk h rs came n) : TabOk h' rs came n :=
  { k with rows := fun r hr w hw => whyG.mono hl w (k.rows r hr w hw), all := fun w hw => whyG.mono hl w (k.all w hw) }
theorem TabL.mono {h h' : PH} (hl : PH.le h h') {t : Nat} {rs : List RowD} {came : List WhyD} {n : Nat} {M0 M : PH} (A : TabL h t rs came n M0 M) : TabL h' t rs came n M0 M := by
  obtain ⟨ca, cc, M1, A, O, k⟩ := A
  exact ⟨ca, cc, M1, A, O, k.mono hl⟩
/-- Which row is a fact's. -/
def rowAt (rs : List RowD) (f : Int) : Option Nat := rs.findIdx? fun r => r.fact == f
theorem ents_some {rs : List RowD} {k : Nat} (hn : (rs.map (·.fact)).Nodup) (hk : k < rs.length) : (rs.map rowEnt).lookup (rs.getD k rowD0).fact = some (.pointer (some ⟨(rs.getD k rowD0).p, 0, none⟩)) := by
  refine lookup_some (by rw [List.map_map]; exact hn) ?_
  exact List.mem_map.2 ⟨_, getD_mem (d := rowD0) hk, rfl⟩
theorem ents_none {rs : List RowD} {f : Int} (h : ∀ r ∈ rs, r.fact ≠ f) : (rs.map rowEnt).lookup f = none := by
  refine lookup_none fun p hp => ?_
  obtain ⟨r, hr, rfl⟩ := List.mem_map.1 hp
  exact h r hr
theorem row_cases (rs : List RowD) (f : Int) : (∀ r ∈ rs, r.fact ≠ f) ∨ ∃ k, k < rs.length ∧ (rs.getD k rowD0).fact = f := by
  by_cases h : ∃ r ∈ rs, r.fact = f
  · obtain ⟨r, hr, e⟩ := h
    obtain ⟨k, hk, rfl⟩ := List.getElem_of_mem hr
    exact .inr ⟨k, hk, by simpa [List.getD, hk] using e⟩
  · exact .inl fun r hr e => h ⟨r, hr, e⟩
end Go.Wk
