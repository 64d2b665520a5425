/-
  DERIVED: THE SHELF's CONTRACTS AT THIS DUMP, IN PLAIN WORDS (tools/lay-plain.mjs out of 'YthlcldgcjilfcaaSh.lean', which tools/lay-shelf.mjs wrote): THE SAME DECLARATIONS UNDER THE SAME YthlcldgcjilfcaaS: 'import', 'namespace', 'open', 'def', 'theorem' AND NOTHING ELSE: no command of the shelf's: FOR A HAND-IN. Each laying: the table of numbers ('.._ren') and one theorem, a field a fact of the dump's own or the kernel's comparison; each contract: ONE APPLICATION.
-/
import Derived.Shelf.SlGeneric
import Derived.Shelf.SlIterI.Nil
import Derived.Shelf.SortM.Plain
import Derived.Shelf.SortM.SortNone
import Derived.Ground.GgzProg
import Derived.Ground.SlgmProg
import Derived.Test.YthlcldgcjilfcaaProg
namespace Go.Proofs
open Go.Shelf
def Try.keysA_ren : Go.Shelf.Ren := ⟨fun | 7 => 29 | 10 => 40 | n => n, fun | 23 => 51 | 26 => 3 | 3 => 54 | 28 => 66 | 0 => 0 | 27 => 65 | 33 => 35 | 4 => 4 | n => n, fun | n => n⟩
theorem Try.keysA : Go.Proofs.SlLaysZI.n7 Try.prog Try.keysA_ren := {
  mixed := by kernel_rfl
  f7 := ⟨Try.f29.name, by decide, Try.func29.trans (congrArg some (by kernel_rfl))⟩
  f10 := ⟨Try.f40.name, by decide, Try.func40.trans (congrArg some (by kernel_rfl))⟩
  t0 := Try.underlying0
  a0 := Try.isAgg0
  z0 := Try.sizeOf0
  v0 := Try.zeroValue0
  t4 := Try.underlying4
  a4 := Try.isAgg4
  z4 := Try.sizeOf4
  v4 := Try.zeroValue4
  t23 := Try.underlying51
  a23 := Try.isAgg51
  z23 := Try.sizeOf51
  v23 := Try.zeroValue51
  t26 := Try.underlying3
  a26 := Try.isAgg3
  z26 := Try.sizeOf3
  v26 := Try.zeroValue3
  t27 := Try.underlying65
  a27 := Try.isAgg65
  z27 := Try.sizeOf65
  v27 := Try.zeroValue65
  t28 := Try.underlying66
  a28 := Try.isAgg66
  z28 := Try.sizeOf66
  v28 := Try.zeroValue66
  t33 := Try.underlying35
  a33 := Try.isAgg35
  z33 := Try.sizeOf35
  v33 := Try.zeroValue35 }
def Try.sortedA_ren : Go.Shelf.Ren := ⟨fun | 6 => 28 | 8 => 38 | 9 => 39 | 11 => 42 | 13 => 44 | 12 => 43 | 23 => 54 | 24 => 55 | 14 => 45 | 15 => 46 | 16 => 47 | 17 => 48 | 18 => 49 | 19 => 50 | 20 => 51 | 21 => 52 | 22 => 53 | 25 => 56 | 26 => 57 | 27 => 58 | 28 => 59 | 29 => 60 | 30 => 61 | 31 => 62 | n => n, fun | 26 => 3 | 28 => 66 | 24 => 26 | 0 => 0 | 3 => 3 | 37 => 75 | 48 => 86 | 50 => 88 | 4 => 4 | 40 => 78 | 39 => 77 | 45 => 83 | 5 => 5 | 9 => 9 | 51 => 89 | 55 => 93 | 57 => 95 | 58 => 96 | 33 => 35 | n => n, fun | n => n⟩
theorem Try.sortedA : Go.Proofs.SlLaysZI.n6 Try.prog Try.sortedA_ren := {
  mixed := by kernel_rfl
  f6 := ⟨Try.f28.name, by decide, Try.func28.trans (congrArg some (by kernel_rfl))⟩
  f8 := ⟨Try.f38.name, by decide, Try.func38.trans (congrArg some (by kernel_rfl))⟩
  f11 := ⟨Try.f42.name, by decide, Try.func42.trans (congrArg some (by kernel_rfl))⟩
  t0 := Try.underlying0
  a0 := Try.isAgg0
  z0 := Try.sizeOf0
  v0 := Try.zeroValue0
  t24 := Try.underlying26
  a24 := Try.isAgg26
  z24 := Try.sizeOf26
  v24 := Try.zeroValue26
  t26 := Try.underlying3
  a26 := Try.isAgg3
  z26 := Try.sizeOf3
  v26 := Try.zeroValue3
  t28 := Try.underlying66
  a28 := Try.isAgg66
  z28 := Try.sizeOf66
  v28 := Try.zeroValue66
  i26 := by kernel_rfl }
def Try.sortA_ren : Go.Shelf.Ren := ⟨fun | 5 => 39 | 8 => 44 | 7 => 43 | 19 => 54 | 20 => 55 | 10 => 45 | 11 => 46 | 12 => 47 | 13 => 48 | 14 => 49 | 15 => 50 | 16 => 51 | 17 => 52 | 18 => 53 | 30 => 56 | 31 => 57 | 32 => 58 | 33 => 59 | 34 => 60 | 35 => 61 | 40 => 62 | n => n, fun | 23 => 26 | 25 => 3 | 3 => 3 | 32 => 75 | 22 => 26 | 0 => 0 | 44 => 86 | 46 => 88 | 4 => 4 | 36 => 78 | 35 => 77 | 41 => 83 | 5 => 5 | 9 => 9 | 53 => 89 | 57 => 93 | 63 => 95 | 64 => 96 | n => n, fun | n => n⟩
theorem Try.sortA : Go.Proofs.SlLaysM.n5 Try.prog Try.sortA_ren := {
  mixed := by kernel_rfl
  f5 := ⟨Try.f39.name, by decide, Try.func39.trans (congrArg some (by kernel_rfl))⟩
  f7 := ⟨Try.f43.name, by decide, Try.func43.trans (congrArg some (by kernel_rfl))⟩
  f8 := Try.func44.trans (congrArg some (by kernel_rfl))
  f10 := ⟨Try.f45.name, by decide, Try.func45.trans (congrArg some (by kernel_rfl))⟩
  f11 := ⟨Try.f46.name, by decide, Try.func46.trans (congrArg some (by kernel_rfl))⟩
  f12 := ⟨Try.f47.name, by decide, Try.func47.trans (congrArg some (by kernel_rfl))⟩
  f13 := ⟨Try.f48.name, by decide, Try.func48.trans (congrArg some (by kernel_rfl))⟩
  f14 := ⟨Try.f49.name, by decide, Try.func49.trans (congrArg some (by kernel_rfl))⟩
  f15 := ⟨Try.f50.name, by decide, Try.func50.trans (congrArg some (by kernel_rfl))⟩
  f16 := ⟨Try.f51.name, by decide, Try.func51.trans (congrArg some (by kernel_rfl))⟩
  f17 := ⟨Try.f52.name, by decide, Try.func52.trans (congrArg some (by kernel_rfl))⟩
  f18 := ⟨Try.f53.name, by decide, Try.func53.trans (congrArg some (by kernel_rfl))⟩
  f19 := Try.func54.trans (congrArg some (by kernel_rfl))
  f20 := Try.func55.trans (congrArg some (by kernel_rfl))
  f30 := ⟨Try.f56.name, by decide, Try.func56.trans (congrArg some (by kernel_rfl))⟩
  f31 := Try.func57.trans (congrArg some (by kernel_rfl))
  f32 := Try.func58.trans (congrArg some (by kernel_rfl))
  f33 := ⟨Try.f59.name, by decide, Try.func59.trans (congrArg some (by kernel_rfl))⟩
  f34 := ⟨Try.f60.name, by decide, Try.func60.trans (congrArg some (by kernel_rfl))⟩
  f35 := ⟨Try.f61.name, by decide, Try.func61.trans (congrArg some (by kernel_rfl))⟩
  f40 := ⟨Try.f62.name, by decide, Try.func62.trans (congrArg some (by kernel_rfl))⟩
  t0 := Try.underlying0
  a0 := Try.isAgg0
  z0 := Try.sizeOf0
  v0 := Try.zeroValue0
  t3 := Try.underlying3
  a3 := Try.isAgg3
  z3 := Try.sizeOf3
  v3 := Try.zeroValue3
  t4 := Try.underlying4
  a4 := Try.isAgg4
  z4 := Try.sizeOf4
  v4 := Try.zeroValue4
  t5 := Try.underlying5
  a5 := Try.isAgg5
  z5 := Try.sizeOf5
  v5 := Try.zeroValue5
  t9 := Try.underlying9
  a9 := Try.isAgg9
  z9 := Try.sizeOf9
  v9 := Try.zeroValue9
  t22 := Try.underlying26
  a22 := Try.isAgg26
  z22 := Try.sizeOf26
  v22 := Try.zeroValue26
  t23 := Try.underlying26
  a23 := Try.isAgg26
  z23 := Try.sizeOf26
  v23 := Try.zeroValue26
  t25 := Try.underlying3
  a25 := Try.isAgg3
  z25 := Try.sizeOf3
  v25 := Try.zeroValue3
  t32 := Try.underlying75
  a32 := Try.isAgg75
  z32 := Try.sizeOf75
  v32 := Try.zeroValue75
  t35 := Try.underlying77
  a35 := Try.isAgg77
  z35 := Try.sizeOf77
  v35 := Try.zeroValue77
  t36 := Try.underlying78
  a36 := Try.isAgg78
  z36 := Try.sizeOf78
  v36 := Try.zeroValue78
  t41 := Try.underlying83
  a41 := Try.isAgg83
  z41 := Try.sizeOf83
  v41 := Try.zeroValue83
  t44 := Try.underlying86
  a44 := Try.isAgg86
  z44 := Try.sizeOf86
  v44 := Try.zeroValue86
  t46 := Try.underlying88
  a46 := Try.isAgg88
  z46 := Try.sizeOf88
  v46 := Try.zeroValue88
  t53 := Try.underlying89
  a53 := Try.isAgg89
  z53 := Try.sizeOf89
  v53 := Try.zeroValue89
  t57 := Try.underlying93
  a57 := Try.isAgg93
  z57 := Try.sizeOf93
  v57 := Try.zeroValue93
  t63 := Try.underlying95
  a63 := Try.isAgg95
  z63 := Try.sizeOf95
  v63 := Try.zeroValue95
  t64 := Try.underlying96
  a64 := Try.isAgg96
  z64 := Try.sizeOf96
  v64 := Try.zeroValue96 }
end Go.Proofs
