/-
  DERIVED: THE SHELF's CONTRACTS AT THIS DUMP, IN PLAIN WORDS (tools/lay-plain.mjs out of 'YteogcjckhoakbaaShelf0.lean', which tools/lay-shelf.mjs wrote): THE SAME DECLARATIONS UNDER THE SAME NAMES: 'import', 'namespace', 'open', 'def', 'theorem' AND NOTHING ELSE: no command of the shelf's: FOR A HAND-IN. Each laying: the table of numbers ('.._ren') and one theorem, a field a fact of the dump's own or the kernel's comparison; each contract: ONE APPLICATION.
-/
import Derived.Shelf.SlGeneric
import Derived.Ground.SlgnProg
import Derived.Shelf.SortG.Plain
import Derived.Shelf.SortG.SortNone
import Derived.Sort.OwnSortedInts
import Derived.Shelf.SlicesG.CompactI
import Derived.Shelf.SlicesG.SearchI
import Derived.Test.YteogcjckhoakbaaProg
namespace Go.Proofs
open Go.Shelf
def Try.laysSortI_ren : Go.Shelf.Ren := ⟨fun | 53 => 36 | 64 => 43 | 63 => 42 | 78 => 53 | 79 => 54 | 70 => 45 | 71 => 46 | 72 => 47 | 73 => 48 | 74 => 49 | 75 => 50 | 59 => 38 | 76 => 51 | 77 => 52 | 88 => 55 | 89 => 56 | 90 => 57 | 91 => 58 | 92 => 59 | 68 => 44 | 96 => 60 | n => n, fun | 22 => 22 | 23 => 3 | 3 => 3 | 51 => 57 | 0 => 0 | 67 => 69 | 69 => 71 | 4 => 4 | 61 => 64 | 60 => 63 | 44 => 49 | 5 => 5 | 9 => 9 | 75 => 72 | 79 => 76 | 83 => 78 | 84 => 79 | n => n, fun | n => n⟩
theorem Try.laysSortI : Go.Proofs.SlLaysN.n53 Try.prog Try.laysSortI_ren := {
  mixed := by kernel_rfl
  f53 := ⟨Try.f36.name, by decide, Try.func36.trans (congrArg some (by kernel_rfl))⟩
  f59 := ⟨Try.f38.name, by decide, Try.func38.trans (congrArg some (by kernel_rfl))⟩
  f63 := ⟨Try.f42.name, by decide, Try.func42.trans (congrArg some (by kernel_rfl))⟩
  f64 := Try.func43.trans (congrArg some (by kernel_rfl))
  f68 := ⟨Try.f44.name, by decide, Try.func44.trans (congrArg some (by kernel_rfl))⟩
  f70 := ⟨Try.f45.name, by decide, Try.func45.trans (congrArg some (by kernel_rfl))⟩
  f71 := ⟨Try.f46.name, by decide, Try.func46.trans (congrArg some (by kernel_rfl))⟩
  f72 := ⟨Try.f47.name, by decide, Try.func47.trans (congrArg some (by kernel_rfl))⟩
  f73 := ⟨Try.f48.name, by decide, Try.func48.trans (congrArg some (by kernel_rfl))⟩
  f74 := ⟨Try.f49.name, by decide, Try.func49.trans (congrArg some (by kernel_rfl))⟩
  f75 := ⟨Try.f50.name, by decide, Try.func50.trans (congrArg some (by kernel_rfl))⟩
  f76 := ⟨Try.f51.name, by decide, Try.func51.trans (congrArg some (by kernel_rfl))⟩
  f77 := ⟨Try.f52.name, by decide, Try.func52.trans (congrArg some (by kernel_rfl))⟩
  f78 := Try.func53.trans (congrArg some (by kernel_rfl))
  f79 := Try.func54.trans (congrArg some (by kernel_rfl))
  f88 := ⟨Try.f55.name, by decide, Try.func55.trans (congrArg some (by kernel_rfl))⟩
  f89 := Try.func56.trans (congrArg some (by kernel_rfl))
  f90 := Try.func57.trans (congrArg some (by kernel_rfl))
  f91 := ⟨Try.f58.name, by decide, Try.func58.trans (congrArg some (by kernel_rfl))⟩
  f92 := ⟨Try.f59.name, by decide, Try.func59.trans (congrArg some (by kernel_rfl))⟩
  f96 := ⟨Try.f60.name, by decide, Try.func60.trans (congrArg some (by kernel_rfl))⟩
  t0 := Try.underlying0
  a0 := Try.isAgg0
  z0 := Try.sizeOf0
  v0 := Try.zeroValue0
  t3 := Try.underlying3
  a3 := Try.isAgg3
  z3 := Try.sizeOf3
  v3 := Try.zeroValue3
  t4 := Try.underlying4
  a4 := Try.isAgg4
  z4 := Try.sizeOf4
  v4 := Try.zeroValue4
  t5 := Try.underlying5
  a5 := Try.isAgg5
  z5 := Try.sizeOf5
  v5 := Try.zeroValue5
  t9 := Try.underlying9
  a9 := Try.isAgg9
  z9 := Try.sizeOf9
  v9 := Try.zeroValue9
  t22 := Try.underlying22
  a22 := Try.isAgg22
  z22 := Try.sizeOf22
  v22 := Try.zeroValue22
  t23 := Try.underlying3
  a23 := Try.isAgg3
  z23 := Try.sizeOf3
  v23 := Try.zeroValue3
  t44 := Try.underlying49
  a44 := Try.isAgg49
  z44 := Try.sizeOf49
  v44 := Try.zeroValue49
  t51 := Try.underlying57
  a51 := Try.isAgg57
  z51 := Try.sizeOf57
  v51 := Try.zeroValue57
  t60 := Try.underlying63
  a60 := Try.isAgg63
  z60 := Try.sizeOf63
  v60 := Try.zeroValue63
  t61 := Try.underlying64
  a61 := Try.isAgg64
  z61 := Try.sizeOf64
  v61 := Try.zeroValue64
  t67 := Try.underlying69
  a67 := Try.isAgg69
  z67 := Try.sizeOf69
  v67 := Try.zeroValue69
  t69 := Try.underlying71
  a69 := Try.isAgg71
  z69 := Try.sizeOf71
  v69 := Try.zeroValue71
  t75 := Try.underlying72
  a75 := Try.isAgg72
  z75 := Try.sizeOf72
  v75 := Try.zeroValue72
  t79 := Try.underlying76
  a79 := Try.isAgg76
  z79 := Try.sizeOf76
  v79 := Try.zeroValue76
  t83 := Try.underlying78
  a83 := Try.isAgg78
  z83 := Try.sizeOf78
  v83 := Try.zeroValue78
  t84 := Try.underlying79
  a84 := Try.isAgg79
  z84 := Try.sizeOf79
  v84 := Try.zeroValue79 }
def Try.laysCompI_ren : Go.Shelf.Ren := ⟨fun | 43 => 37 | n => n, fun | 22 => 22 | 23 => 3 | 3 => 3 | 4 => 4 | 0 => 0 | n => n, fun | n => n⟩
theorem Try.laysCompI : Go.Proofs.SlLaysN.n43 Try.prog Try.laysCompI_ren := {
  mixed := by kernel_rfl
  f43 := ⟨Try.f37.name, by decide, Try.func37.trans (congrArg some (by kernel_rfl))⟩
  t0 := Try.underlying0
  a0 := Try.isAgg0
  z0 := Try.sizeOf0
  v0 := Try.zeroValue0
  t3 := Try.underlying3
  a3 := Try.isAgg3
  z3 := Try.sizeOf3
  v3 := Try.zeroValue3
  t4 := Try.underlying4
  a4 := Try.isAgg4
  z4 := Try.sizeOf4
  v4 := Try.zeroValue4
  t22 := Try.underlying22
  a22 := Try.isAgg22
  z22 := Try.sizeOf22
  v22 := Try.zeroValue22
  t23 := Try.underlying3
  a23 := Try.isAgg3
  z23 := Try.sizeOf3
  v23 := Try.zeroValue3
  i23 := by kernel_rfl }
def Try.laysFindI_ren : Go.Shelf.Ren := ⟨fun | 49 => 33 | 59 => 38 | 60 => 39 | 68 => 44 | n => n, fun | 22 => 22 | 23 => 3 | 3 => 3 | 4 => 4 | 51 => 57 | 0 => 0 | n => n, fun | n => n⟩
theorem Try.laysFindI : Go.Proofs.SlLaysN.n49 Try.prog Try.laysFindI_ren := {
  mixed := by kernel_rfl
  f49 := ⟨Try.f33.name, by decide, Try.func33.trans (congrArg some (by kernel_rfl))⟩
  f59 := ⟨Try.f38.name, by decide, Try.func38.trans (congrArg some (by kernel_rfl))⟩
  f60 := ⟨Try.f39.name, by decide, Try.func39.trans (congrArg some (by kernel_rfl))⟩
  f68 := ⟨Try.f44.name, by decide, Try.func44.trans (congrArg some (by kernel_rfl))⟩
  t0 := Try.underlying0
  a0 := Try.isAgg0
  z0 := Try.sizeOf0
  v0 := Try.zeroValue0
  t3 := Try.underlying3
  a3 := Try.isAgg3
  z3 := Try.sizeOf3
  v3 := Try.zeroValue3
  t4 := Try.underlying4
  a4 := Try.isAgg4
  z4 := Try.sizeOf4
  v4 := Try.zeroValue4
  t22 := Try.underlying22
  a22 := Try.isAgg22
  z22 := Try.sizeOf22
  v22 := Try.zeroValue22
  t23 := Try.underlying3
  a23 := Try.isAgg3
  z23 := Try.sizeOf3
  v23 := Try.zeroValue3
  t51 := Try.underlying57
  a51 := Try.isAgg57
  z51 := Try.sizeOf57
  v51 := Try.zeroValue57 }
end Go.Proofs
