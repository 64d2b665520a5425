/-
  DERIVED: THE SHELF's CONTRACTS AT THIS DUMP, IN PLAIN WORDS (tools/lay-plain.mjs out of 'YtcogbcnnehkddaaSh.lean', which tools/lay-shelf.mjs wrote): THE SAME DECLARATIONS UNDER THE SAME NAMES: 'import', 'namespace', 'open', 'def', 'theorem' AND NOTHING ELSE: no command of the shelf's: FOR A HAND-IN. Each laying: the table of numbers ('.._ren') and one theorem, a field a fact of the dump's own or the kernel's comparison; each contract: ONE APPLICATION.
-/
import Derived.Shelf.SlGeneric
import Derived.Shelf.SlIterI.Nil
import Derived.Shelf.SortM.Plain
import Derived.Shelf.SortM.SortNone
import Derived.Ground.GgzProg
import Derived.Ground.SlgmProg
import Derived.Test.YtcogbcnnehkddaaProg
namespace Go.Proofs
open Go.Shelf
def Try.keysA_ren : Go.Shelf.Ren := ⟨fun | 7 => 18 | 10 => 27 | n => n, fun | 23 => 49 | 26 => 3 | 3 => 46 | 28 => 55 | 0 => 0 | 27 => 54 | 33 => 60 | 4 => 4 | n => n, fun | n => n⟩
theorem Try.keysA : Go.Proofs.SlLaysZI.n7 Try.prog Try.keysA_ren := {
  mixed := by kernel_rfl
  f7 := ⟨Try.f18.name, by decide, Try.func18.trans (congrArg some (by kernel_rfl))⟩
  f10 := ⟨Try.f27.name, by decide, Try.func27.trans (congrArg some (by kernel_rfl))⟩
  t0 := Try.underlying0
  a0 := Try.isAgg0
  z0 := Try.sizeOf0
  v0 := Try.zeroValue0
  t4 := Try.underlying4
  a4 := Try.isAgg4
  z4 := Try.sizeOf4
  v4 := Try.zeroValue4
  t23 := Try.underlying49
  a23 := Try.isAgg49
  z23 := Try.sizeOf49
  v23 := Try.zeroValue49
  t26 := Try.underlying3
  a26 := Try.isAgg3
  z26 := Try.sizeOf3
  v26 := Try.zeroValue3
  t27 := Try.underlying54
  a27 := Try.isAgg54
  z27 := Try.sizeOf54
  v27 := Try.zeroValue54
  t28 := Try.underlying55
  a28 := Try.isAgg55
  z28 := Try.sizeOf55
  v28 := Try.zeroValue55
  t33 := Try.underlying60
  a33 := Try.isAgg60
  z33 := Try.sizeOf60
  v33 := Try.zeroValue60 }
def Try.sortedA_ren : Go.Shelf.Ren := ⟨fun | 6 => 17 | 8 => 26 | 9 => 19 | 11 => 31 | 13 => 29 | 12 => 28 | 23 => 41 | 24 => 42 | 14 => 32 | 15 => 33 | 16 => 34 | 17 => 35 | 18 => 36 | 19 => 37 | 20 => 38 | 21 => 39 | 22 => 40 | 25 => 43 | 26 => 44 | 27 => 45 | 28 => 46 | 29 => 47 | 30 => 48 | 31 => 49 | n => n, fun | 26 => 3 | 28 => 55 | 24 => 35 | 0 => 0 | 3 => 3 | 37 => 63 | 48 => 76 | 50 => 78 | 4 => 4 | 40 => 68 | 39 => 67 | 45 => 73 | 5 => 5 | 9 => 9 | 51 => 79 | 55 => 83 | 57 => 85 | 58 => 86 | 33 => 60 | n => n, fun | n => n⟩
theorem Try.sortedA : Go.Proofs.SlLaysZI.n6 Try.prog Try.sortedA_ren := {
  mixed := by kernel_rfl
  f6 := ⟨Try.f17.name, by decide, Try.func17.trans (congrArg some (by kernel_rfl))⟩
  f8 := ⟨Try.f26.name, by decide, Try.func26.trans (congrArg some (by kernel_rfl))⟩
  f11 := ⟨Try.f31.name, by decide, Try.func31.trans (congrArg some (by kernel_rfl))⟩
  t0 := Try.underlying0
  a0 := Try.isAgg0
  z0 := Try.sizeOf0
  v0 := Try.zeroValue0
  t24 := Try.underlying35
  a24 := Try.isAgg35
  z24 := Try.sizeOf35
  v24 := Try.zeroValue35
  t26 := Try.underlying3
  a26 := Try.isAgg3
  z26 := Try.sizeOf3
  v26 := Try.zeroValue3
  t28 := Try.underlying55
  a28 := Try.isAgg55
  z28 := Try.sizeOf55
  v28 := Try.zeroValue55
  i26 := by kernel_rfl }
def Try.sortA_ren : Go.Shelf.Ren := ⟨fun | 5 => 19 | 8 => 29 | 7 => 28 | 19 => 41 | 20 => 42 | 10 => 32 | 11 => 33 | 12 => 34 | 13 => 35 | 14 => 36 | 15 => 37 | 16 => 38 | 17 => 39 | 18 => 40 | 30 => 43 | 31 => 44 | 32 => 45 | 33 => 46 | 34 => 47 | 35 => 48 | 40 => 49 | n => n, fun | 23 => 35 | 25 => 3 | 3 => 3 | 32 => 63 | 22 => 35 | 0 => 0 | 44 => 76 | 46 => 78 | 4 => 4 | 36 => 68 | 35 => 67 | 41 => 73 | 5 => 5 | 9 => 9 | 53 => 79 | 57 => 83 | 63 => 85 | 64 => 86 | n => n, fun | n => n⟩
theorem Try.sortA : Go.Proofs.SlLaysM.n5 Try.prog Try.sortA_ren := {
  mixed := by kernel_rfl
  f5 := ⟨Try.f19.name, by decide, Try.func19.trans (congrArg some (by kernel_rfl))⟩
  f7 := ⟨Try.f28.name, by decide, Try.func28.trans (congrArg some (by kernel_rfl))⟩
  f8 := Try.func29.trans (congrArg some (by kernel_rfl))
  f10 := ⟨Try.f32.name, by decide, Try.func32.trans (congrArg some (by kernel_rfl))⟩
  f11 := ⟨Try.f33.name, by decide, Try.func33.trans (congrArg some (by kernel_rfl))⟩
  f12 := ⟨Try.f34.name, by decide, Try.func34.trans (congrArg some (by kernel_rfl))⟩
  f13 := ⟨Try.f35.name, by decide, Try.func35.trans (congrArg some (by kernel_rfl))⟩
  f14 := ⟨Try.f36.name, by decide, Try.func36.trans (congrArg some (by kernel_rfl))⟩
  f15 := ⟨Try.f37.name, by decide, Try.func37.trans (congrArg some (by kernel_rfl))⟩
  f16 := ⟨Try.f38.name, by decide, Try.func38.trans (congrArg some (by kernel_rfl))⟩
  f17 := ⟨Try.f39.name, by decide, Try.func39.trans (congrArg some (by kernel_rfl))⟩
  f18 := ⟨Try.f40.name, by decide, Try.func40.trans (congrArg some (by kernel_rfl))⟩
  f19 := Try.func41.trans (congrArg some (by kernel_rfl))
  f20 := Try.func42.trans (congrArg some (by kernel_rfl))
  f30 := ⟨Try.f43.name, by decide, Try.func43.trans (congrArg some (by kernel_rfl))⟩
  f31 := Try.func44.trans (congrArg some (by kernel_rfl))
  f32 := Try.func45.trans (congrArg some (by kernel_rfl))
  f33 := ⟨Try.f46.name, by decide, Try.func46.trans (congrArg some (by kernel_rfl))⟩
  f34 := ⟨Try.f47.name, by decide, Try.func47.trans (congrArg some (by kernel_rfl))⟩
  f35 := ⟨Try.f48.name, by decide, Try.func48.trans (congrArg some (by kernel_rfl))⟩
  f40 := ⟨Try.f49.name, by decide, Try.func49.trans (congrArg some (by kernel_rfl))⟩
  t0 := Try.underlying0
  a0 := Try.isAgg0
  z0 := Try.sizeOf0
  v0 := Try.zeroValue0
  t3 := Try.underlying3
  a3 := Try.isAgg3
  z3 := Try.sizeOf3
  v3 := Try.zeroValue3
  t4 := Try.underlying4
  a4 := Try.isAgg4
  z4 := Try.sizeOf4
  v4 := Try.zeroValue4
  t5 := Try.underlying5
  a5 := Try.isAgg5
  z5 := Try.sizeOf5
  v5 := Try.zeroValue5
  t9 := Try.underlying9
  a9 := Try.isAgg9
  z9 := Try.sizeOf9
  v9 := Try.zeroValue9
  t22 := Try.underlying35
  a22 := Try.isAgg35
  z22 := Try.sizeOf35
  v22 := Try.zeroValue35
  t23 := Try.underlying35
  a23 := Try.isAgg35
  z23 := Try.sizeOf35
  v23 := Try.zeroValue35
  t25 := Try.underlying3
  a25 := Try.isAgg3
  z25 := Try.sizeOf3
  v25 := Try.zeroValue3
  t32 := Try.underlying63
  a32 := Try.isAgg63
  z32 := Try.sizeOf63
  v32 := Try.zeroValue63
  t35 := Try.underlying67
  a35 := Try.isAgg67
  z35 := Try.sizeOf67
  v35 := Try.zeroValue67
  t36 := Try.underlying68
  a36 := Try.isAgg68
  z36 := Try.sizeOf68
  v36 := Try.zeroValue68
  t41 := Try.underlying73
  a41 := Try.isAgg73
  z41 := Try.sizeOf73
  v41 := Try.zeroValue73
  t44 := Try.underlying76
  a44 := Try.isAgg76
  z44 := Try.sizeOf76
  v44 := Try.zeroValue76
  t46 := Try.underlying78
  a46 := Try.isAgg78
  z46 := Try.sizeOf78
  v46 := Try.zeroValue78
  t53 := Try.underlying79
  a53 := Try.isAgg79
  z53 := Try.sizeOf79
  v53 := Try.zeroValue79
  t57 := Try.underlying83
  a57 := Try.isAgg83
  z57 := Try.sizeOf83
  v57 := Try.zeroValue83
  t63 := Try.underlying85
  a63 := Try.isAgg85
  z63 := Try.sizeOf85
  v63 := Try.zeroValue85
  t64 := Try.underlying86
  a64 := Try.isAgg86
  z64 := Try.sizeOf86
  v64 := Try.zeroValue86 }
end Go.Proofs
