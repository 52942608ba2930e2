/-
  DERIVED: THE SHELF's CONTRACTS AT THIS DUMP, IN PLAIN WORDS (tools/lay-plain.mjs out of 'YtcdodchjgadcoaaSort0.lean', which tools/lay-shelf.mjs wrote): THE SAME DECLARATIONS UNDER THE SAME NAMES: 'import', 'namespace', 'open', 'def', 'theorem' AND NOTHING ELSE: no command of the shelf's: FOR A HAND-IN. Each laying: the table of numbers ('.._ren') and one theorem, a field a fact of the dump's own or the kernel's comparison; each contract: ONE APPLICATION.
-/
import Derived.Shelf.SlSortCmp.WholeK
import Derived.Ground.SlsfProg
import Derived.Test.YtcdodchjgadcoaaProg
namespace Go.Proofs
open Go.Shelf
def Try.sortEn_ren : Go.Shelf.Ren := ⟨fun | 6 => 52 | 15 => 55 | 14 => 54 | 28 => 64 | 29 => 65 | 20 => 56 | 21 => 57 | 22 => 58 | 23 => 59 | 24 => 60 | 25 => 61 | 26 => 62 | 27 => 63 | 46 => 66 | 47 => 67 | 48 => 68 | 49 => 69 | 50 => 70 | 57 => 71 | n => n, fun | 22 => 79 | 24 => 83 | 25 => 84 | 3 => 3 | 39 => 87 | 0 => 0 | 53 => 97 | 55 => 99 | 4 => 4 | 46 => 90 | 45 => 89 | 50 => 94 | 5 => 5 | 9 => 9 | 66 => 100 | 70 => 104 | 76 => 106 | 77 => 107 | n => n, fun | n => n⟩
theorem Try.sortEn : Go.Proofs.SlLaysF0.n6 Try.prog Try.sortEn_ren := {
  mixed := by kernel_rfl
  f6 := ⟨Try.f52.name, by decide, Try.func52.trans (congrArg some (by kernel_rfl))⟩
  f14 := ⟨Try.f54.name, by decide, Try.func54.trans (congrArg some (by kernel_rfl))⟩
  f15 := Try.func55.trans (congrArg some (by kernel_rfl))
  f20 := ⟨Try.f56.name, by decide, Try.func56.trans (congrArg some (by kernel_rfl))⟩
  f21 := ⟨Try.f57.name, by decide, Try.func57.trans (congrArg some (by kernel_rfl))⟩
  f22 := ⟨Try.f58.name, by decide, Try.func58.trans (congrArg some (by kernel_rfl))⟩
  f23 := ⟨Try.f59.name, by decide, Try.func59.trans (congrArg some (by kernel_rfl))⟩
  f24 := ⟨Try.f60.name, by decide, Try.func60.trans (congrArg some (by kernel_rfl))⟩
  f25 := ⟨Try.f61.name, by decide, Try.func61.trans (congrArg some (by kernel_rfl))⟩
  f26 := ⟨Try.f62.name, by decide, Try.func62.trans (congrArg some (by kernel_rfl))⟩
  f27 := ⟨Try.f63.name, by decide, Try.func63.trans (congrArg some (by kernel_rfl))⟩
  f28 := Try.func64.trans (congrArg some (by kernel_rfl))
  f29 := Try.func65.trans (congrArg some (by kernel_rfl))
  f46 := ⟨Try.f66.name, by decide, Try.func66.trans (congrArg some (by kernel_rfl))⟩
  f47 := Try.func67.trans (congrArg some (by kernel_rfl))
  f48 := Try.func68.trans (congrArg some (by kernel_rfl))
  f49 := ⟨Try.f69.name, by decide, Try.func69.trans (congrArg some (by kernel_rfl))⟩
  f50 := ⟨Try.f70.name, by decide, Try.func70.trans (congrArg some (by kernel_rfl))⟩
  f57 := ⟨Try.f71.name, by decide, Try.func71.trans (congrArg some (by kernel_rfl))⟩
  t0 := Try.underlying0
  a0 := Try.isAgg0
  z0 := Try.sizeOf0
  v0 := Try.zeroValue0
  t3 := Try.underlying3
  a3 := Try.isAgg3
  z3 := Try.sizeOf3
  v3 := Try.zeroValue3
  t4 := Try.underlying4
  a4 := Try.isAgg4
  z4 := Try.sizeOf4
  v4 := Try.zeroValue4
  t5 := Try.underlying5
  a5 := Try.isAgg5
  z5 := Try.sizeOf5
  v5 := Try.zeroValue5
  t9 := Try.underlying9
  a9 := Try.isAgg9
  z9 := Try.sizeOf9
  v9 := Try.zeroValue9
  t22 := Try.underlying79
  a22 := Try.isAgg79
  z22 := Try.sizeOf79
  v22 := Try.zeroValue79
  t25 := Try.underlying84
  a25 := Try.isAgg84
  z25 := Try.sizeOf84
  v25 := Try.zeroValue84
  t39 := Try.underlying87
  a39 := Try.isAgg87
  z39 := Try.sizeOf87
  v39 := Try.zeroValue87
  t45 := Try.underlying89
  a45 := Try.isAgg89
  z45 := Try.sizeOf89
  v45 := Try.zeroValue89
  t46 := Try.underlying90
  a46 := Try.isAgg90
  z46 := Try.sizeOf90
  v46 := Try.zeroValue90
  t50 := Try.underlying94
  a50 := Try.isAgg94
  z50 := Try.sizeOf94
  v50 := Try.zeroValue94
  t53 := Try.underlying97
  a53 := Try.isAgg97
  z53 := Try.sizeOf97
  v53 := Try.zeroValue97
  t55 := Try.underlying99
  a55 := Try.isAgg99
  z55 := Try.sizeOf99
  v55 := Try.zeroValue99
  t66 := Try.underlying100
  a66 := Try.isAgg100
  z66 := Try.sizeOf100
  v66 := Try.zeroValue100
  t70 := Try.underlying104
  a70 := Try.isAgg104
  z70 := Try.sizeOf104
  v70 := Try.zeroValue104
  t76 := Try.underlying106
  a76 := Try.isAgg106
  z76 := Try.sizeOf106
  v76 := Try.zeroValue106
  t77 := Try.underlying107
  a77 := Try.isAgg107
  z77 := Try.sizeOf107
  v77 := Try.zeroValue107 }
end Go.Proofs
