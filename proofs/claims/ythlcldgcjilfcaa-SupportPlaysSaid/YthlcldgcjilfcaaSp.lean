import Derived.Test.YthlcldgcjilfcaaShp
import Derived.Test.YthlcldgcjilfcaaSq
namespace Go.Proofs
open Go Go.Wk
theorem keys_spec {K : Key} {w : World} {h M : PH} (G : Wld K w h M) (mb : Nat) :
    Calls Try.prog 29 #[.map (some mb)] w (Ret K h M fun h' v => ∃ b, v = .func (.func 40) #[] #[.pointer (some ⟨b, 0, none⟩)] ∧ h' b = some (.cells #[.map (some mb)] 51 (0, 0))) := by
  refine (callsIn_wide.1 (AnyZI.keys_in Try.keysA Fence.wide 5 trivial rfl (some mb) w)).mono ?_
  rintro e w' ⟨rfl, rfl⟩
  exact Ret.mk (PH.le_set _ G.new.2) (G.allocI _) ⟨_, rfl, PH.set_same _ _ _⟩

theorem sorts23 : AnyZI.SortsIn Try.prog Try.sortedA_ren Fence.wide 4 :=
  ⟨fun blk off cap ss W hH hblk hsz => callsIn_wide.2 (AnyM.slices_Sort_int Try.sortA blk off cap ss W hH hblk hsz),
   fun p cap W => callsIn_wide.2 (AnyM.slices_Sort_int_none Try.sortA p cap W)⟩

theorem sorted_spec {K : Key} {w : World} {h M : PH} (G : Wld K w h M) {es : Array MapEntry} {clk : Nat} {l : List (Int × Value)} {bm b : Nat} (hbm : PH.all w bm = some (.cells #[.map (some b)] 51 (0, 0))) (hb : PH.all w b = some (.map es clk)) (hm : MapIs (.int .i64) intK es clk l)
    (hl : l.length ≤ 4000000) (hw : ∀ q ∈ l, -9223372036854775808 ≤ q.1 ∧ q.1 ≤ 9223372036854775807) :
    Calls Try.prog 28 #[.func (.func 40) #[] #[.pointer (some ⟨bm, 0, none⟩)]] w (RetM K h fun _ M' v => ∃ a c, v = .slice a (sortInts (l.map (·.1))).length c ∧ Own 3 intE M M' a c (sortInts (l.map (·.1)))) :=
  sorted_keys Try.keysA Try.sortedA sorts23 (enters_of Try.func39 (by kernel_rfl) rfl) (enters_of Try.func40 (by kernel_rfl) rfl) Try.underlying3 G hbm hb hm hl hw
end Go.Proofs
