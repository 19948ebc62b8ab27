/-
  DERIVED: THE SHELF's CONTRACTS AT THIS DUMP, IN PLAIN WORDS (tools/lay-plain.mjs out of 'YtfkbmjfhakooiaaDoorSrtLay.lean', which tools/lay-shelf.mjs wrote): THE SAME DECLARATIONS UNDER THE SAME NAMES: 'import', 'namespace', 'open', 'def', 'theorem' AND NOTHING ELSE: no command of the shelf's: FOR A HAND-IN. Each laying: the table of numbers ('.._ren') and one theorem, a field a fact of the dump's own or the kernel's comparison; each contract: ONE APPLICATION.
-/
import Derived.Shelf.SlGeneric
import Derived.Shelf.SlSortCmp.WholeK
import Derived.Shelf.SlSortCmp.NoneTotal
import Derived.Ground.SlsfProg
import Derived.Test.YtfkbmjfhakooiaaDoorProg
namespace Go.Proofs
open Go.Shelf
def Tryd.sortEnt_ren : Go.Shelf.Ren := ⟨fun | 6 => 24 | 15 => 44 | 14 => 43 | 28 => 64 | 29 => 65 | 20 => 56 | 21 => 57 | 22 => 58 | 23 => 59 | 24 => 60 | 25 => 61 | 26 => 62 | 27 => 63 | 46 => 82 | 47 => 83 | 48 => 84 | 49 => 85 | 50 => 86 | 57 => 97 | n => n, fun | 22 => 22 | 24 => 31 | 25 => 62 | 3 => 3 | 39 => 49 | 0 => 0 | 53 => 96 | 55 => 98 | 4 => 4 | 46 => 89 | 45 => 88 | 50 => 93 | 5 => 5 | 9 => 9 | 66 => 111 | 70 => 115 | 76 => 120 | 77 => 121 | n => n, fun | n => n⟩
theorem Tryd.sortEnt : Go.Proofs.SlLaysF0.n6 Tryd.prog Tryd.sortEnt_ren := {
  mixed := by kernel_rfl
  f6 := ⟨Tryd.f24.name, by decide, Tryd.func24.trans (congrArg some (by kernel_rfl))⟩
  f14 := ⟨Tryd.f43.name, by decide, Tryd.func43.trans (congrArg some (by kernel_rfl))⟩
  f15 := Tryd.func44.trans (congrArg some (by kernel_rfl))
  f20 := ⟨Tryd.f56.name, by decide, Tryd.func56.trans (congrArg some (by kernel_rfl))⟩
  f21 := ⟨Tryd.f57.name, by decide, Tryd.func57.trans (congrArg some (by kernel_rfl))⟩
  f22 := ⟨Tryd.f58.name, by decide, Tryd.func58.trans (congrArg some (by kernel_rfl))⟩
  f23 := ⟨Tryd.f59.name, by decide, Tryd.func59.trans (congrArg some (by kernel_rfl))⟩
  f24 := ⟨Tryd.f60.name, by decide, Tryd.func60.trans (congrArg some (by kernel_rfl))⟩
  f25 := ⟨Tryd.f61.name, by decide, Tryd.func61.trans (congrArg some (by kernel_rfl))⟩
  f26 := ⟨Tryd.f62.name, by decide, Tryd.func62.trans (congrArg some (by kernel_rfl))⟩
  f27 := ⟨Tryd.f63.name, by decide, Tryd.func63.trans (congrArg some (by kernel_rfl))⟩
  f28 := Tryd.func64.trans (congrArg some (by kernel_rfl))
  f29 := Tryd.func65.trans (congrArg some (by kernel_rfl))
  f46 := ⟨Tryd.f82.name, by decide, Tryd.func82.trans (congrArg some (by kernel_rfl))⟩
  f47 := Tryd.func83.trans (congrArg some (by kernel_rfl))
  f48 := Tryd.func84.trans (congrArg some (by kernel_rfl))
  f49 := ⟨Tryd.f85.name, by decide, Tryd.func85.trans (congrArg some (by kernel_rfl))⟩
  f50 := ⟨Tryd.f86.name, by decide, Tryd.func86.trans (congrArg some (by kernel_rfl))⟩
  f57 := ⟨Tryd.f97.name, by decide, Tryd.func97.trans (congrArg some (by kernel_rfl))⟩
  t0 := Tryd.underlying0
  a0 := Tryd.isAgg0
  z0 := Tryd.sizeOf0
  v0 := Tryd.zeroValue0
  t3 := Tryd.underlying3
  a3 := Tryd.isAgg3
  z3 := Tryd.sizeOf3
  v3 := Tryd.zeroValue3
  t4 := Tryd.underlying4
  a4 := Tryd.isAgg4
  z4 := Tryd.sizeOf4
  v4 := Tryd.zeroValue4
  t5 := Tryd.underlying5
  a5 := Tryd.isAgg5
  z5 := Tryd.sizeOf5
  v5 := Tryd.zeroValue5
  t9 := Tryd.underlying9
  a9 := Tryd.isAgg9
  z9 := Tryd.sizeOf9
  v9 := Tryd.zeroValue9
  t22 := Tryd.underlying22
  a22 := Tryd.isAgg22
  z22 := Tryd.sizeOf22
  v22 := Tryd.zeroValue22
  t25 := Tryd.underlying62
  a25 := Tryd.isAgg62
  z25 := Tryd.sizeOf62
  v25 := Tryd.zeroValue62
  t39 := Tryd.underlying49
  a39 := Tryd.isAgg49
  z39 := Tryd.sizeOf49
  v39 := Tryd.zeroValue49
  t45 := Tryd.underlying88
  a45 := Tryd.isAgg88
  z45 := Tryd.sizeOf88
  v45 := Tryd.zeroValue88
  t46 := Tryd.underlying89
  a46 := Tryd.isAgg89
  z46 := Tryd.sizeOf89
  v46 := Tryd.zeroValue89
  t50 := Tryd.underlying93
  a50 := Tryd.isAgg93
  z50 := Tryd.sizeOf93
  v50 := Tryd.zeroValue93
  t53 := Tryd.underlying96
  a53 := Tryd.isAgg96
  z53 := Tryd.sizeOf96
  v53 := Tryd.zeroValue96
  t55 := Tryd.underlying98
  a55 := Tryd.isAgg98
  z55 := Tryd.sizeOf98
  v55 := Tryd.zeroValue98
  t66 := Tryd.underlying111
  a66 := Tryd.isAgg111
  z66 := Tryd.sizeOf111
  v66 := Tryd.zeroValue111
  t70 := Tryd.underlying115
  a70 := Tryd.isAgg115
  z70 := Tryd.sizeOf115
  v70 := Tryd.zeroValue115
  t76 := Tryd.underlying120
  a76 := Tryd.isAgg120
  z76 := Tryd.sizeOf120
  v76 := Tryd.zeroValue120
  t77 := Tryd.underlying121
  a77 := Tryd.isAgg121
  z77 := Tryd.sizeOf121
  v77 := Tryd.zeroValue121 }
end Go.Proofs
