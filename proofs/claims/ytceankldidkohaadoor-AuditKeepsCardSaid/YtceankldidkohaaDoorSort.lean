/-
  DERIVED: THE SHELF's CONTRACTS AT THIS DUMP, IN PLAIN WORDS (tools/lay-plain.mjs out of 'TrydSort.lean', which tools/lay-shelf.mjs wrote): THE SAME DECLARATIONS UNDER THE SAME NAMES: 'import', 'namespace', 'open', 'def', 'theorem' AND NOTHING ELSE: no command of the shelf's: FOR A HAND-IN. Each laying: the table of numbers ('.._ren') and one theorem, a field a fact of the dump's own or the kernel's comparison; each contract: ONE APPLICATION.
-/
import Derived.Shelf.SlSortCmp.NoneTotal
import Derived.Ground.SlsfProg
import Derived.Test.YtceankldidkohaaDoorProg
namespace Go.Proofs
open Go.Shelf
def Tryd.sortE_ren : Go.Shelf.Ren := ⟨fun | 6 => 24 | 15 => 35 | 14 => 34 | 28 => 52 | 29 => 53 | 20 => 44 | 21 => 45 | 22 => 46 | 23 => 47 | 24 => 48 | 25 => 49 | 26 => 50 | 27 => 51 | 46 => 58 | 47 => 59 | 48 => 60 | 49 => 61 | 50 => 62 | 57 => 77 | n => n, fun | 22 => 35 | 24 => 38 | 25 => 59 | 3 => 3 | 39 => 72 | 0 => 0 | 53 => 86 | 55 => 88 | 4 => 4 | 46 => 80 | 45 => 79 | 50 => 56 | 5 => 5 | 9 => 9 | 66 => 93 | 70 => 97 | 76 => 110 | 77 => 111 | n => n, fun | n => n⟩
theorem Tryd.sortE : Go.Proofs.SlLaysF0.n6 Tryd.prog Tryd.sortE_ren := {
  mixed := by kernel_rfl
  f6 := ⟨Tryd.f24.name, by decide, Tryd.func24.trans (congrArg some (by kernel_rfl))⟩
  f14 := ⟨Tryd.f34.name, by decide, Tryd.func34.trans (congrArg some (by kernel_rfl))⟩
  f15 := Tryd.func35.trans (congrArg some (by kernel_rfl))
  f20 := ⟨Tryd.f44.name, by decide, Tryd.func44.trans (congrArg some (by kernel_rfl))⟩
  f21 := ⟨Tryd.f45.name, by decide, Tryd.func45.trans (congrArg some (by kernel_rfl))⟩
  f22 := ⟨Tryd.f46.name, by decide, Tryd.func46.trans (congrArg some (by kernel_rfl))⟩
  f23 := ⟨Tryd.f47.name, by decide, Tryd.func47.trans (congrArg some (by kernel_rfl))⟩
  f24 := ⟨Tryd.f48.name, by decide, Tryd.func48.trans (congrArg some (by kernel_rfl))⟩
  f25 := ⟨Tryd.f49.name, by decide, Tryd.func49.trans (congrArg some (by kernel_rfl))⟩
  f26 := ⟨Tryd.f50.name, by decide, Tryd.func50.trans (congrArg some (by kernel_rfl))⟩
  f27 := ⟨Tryd.f51.name, by decide, Tryd.func51.trans (congrArg some (by kernel_rfl))⟩
  f28 := Tryd.func52.trans (congrArg some (by kernel_rfl))
  f29 := Tryd.func53.trans (congrArg some (by kernel_rfl))
  f46 := ⟨Tryd.f58.name, by decide, Tryd.func58.trans (congrArg some (by kernel_rfl))⟩
  f47 := Tryd.func59.trans (congrArg some (by kernel_rfl))
  f48 := Tryd.func60.trans (congrArg some (by kernel_rfl))
  f49 := ⟨Tryd.f61.name, by decide, Tryd.func61.trans (congrArg some (by kernel_rfl))⟩
  f50 := ⟨Tryd.f62.name, by decide, Tryd.func62.trans (congrArg some (by kernel_rfl))⟩
  f57 := ⟨Tryd.f77.name, by decide, Tryd.func77.trans (congrArg some (by kernel_rfl))⟩
  t0 := Tryd.underlying0
  a0 := Tryd.isAgg0
  z0 := Tryd.sizeOf0
  v0 := Tryd.zeroValue0
  t3 := Tryd.underlying3
  a3 := Tryd.isAgg3
  z3 := Tryd.sizeOf3
  v3 := Tryd.zeroValue3
  t4 := Tryd.underlying4
  a4 := Tryd.isAgg4
  z4 := Tryd.sizeOf4
  v4 := Tryd.zeroValue4
  t5 := Tryd.underlying5
  a5 := Tryd.isAgg5
  z5 := Tryd.sizeOf5
  v5 := Tryd.zeroValue5
  t9 := Tryd.underlying9
  a9 := Tryd.isAgg9
  z9 := Tryd.sizeOf9
  v9 := Tryd.zeroValue9
  t22 := Tryd.underlying35
  a22 := Tryd.isAgg35
  z22 := Tryd.sizeOf35
  v22 := Tryd.zeroValue35
  t25 := Tryd.underlying59
  a25 := Tryd.isAgg59
  z25 := Tryd.sizeOf59
  v25 := Tryd.zeroValue59
  t39 := Tryd.underlying72
  a39 := Tryd.isAgg72
  z39 := Tryd.sizeOf72
  v39 := Tryd.zeroValue72
  t45 := Tryd.underlying79
  a45 := Tryd.isAgg79
  z45 := Tryd.sizeOf79
  v45 := Tryd.zeroValue79
  t46 := Tryd.underlying80
  a46 := Tryd.isAgg80
  z46 := Tryd.sizeOf80
  v46 := Tryd.zeroValue80
  t50 := Tryd.underlying56
  a50 := Tryd.isAgg56
  z50 := Tryd.sizeOf56
  v50 := Tryd.zeroValue56
  t53 := Tryd.underlying86
  a53 := Tryd.isAgg86
  z53 := Tryd.sizeOf86
  v53 := Tryd.zeroValue86
  t55 := Tryd.underlying88
  a55 := Tryd.isAgg88
  z55 := Tryd.sizeOf88
  v55 := Tryd.zeroValue88
  t66 := Tryd.underlying93
  a66 := Tryd.isAgg93
  z66 := Tryd.sizeOf93
  v66 := Tryd.zeroValue93
  t70 := Tryd.underlying97
  a70 := Tryd.isAgg97
  z70 := Tryd.sizeOf97
  v70 := Tryd.zeroValue97
  t76 := Tryd.underlying110
  a76 := Tryd.isAgg110
  z76 := Tryd.sizeOf110
  v76 := Tryd.zeroValue110
  t77 := Tryd.underlying111
  a77 := Tryd.isAgg111
  z77 := Tryd.sizeOf111
  v77 := Tryd.zeroValue111 }
end Go.Proofs
