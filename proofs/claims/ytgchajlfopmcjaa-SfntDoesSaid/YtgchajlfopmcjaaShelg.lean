/-
  DERIVED: THE SHELF's CONTRACTS AT THIS DUMP, IN PLAIN WORDS (tools/lay-plain.mjs out of 'TryShelg.lean', which tools/lay-shelf.mjs wrote): THE SAME DECLARATIONS UNDER THE SAME NAMES: 'import', 'namespace', 'open', 'def', 'theorem' AND NOTHING ELSE: no command of the shelf's: FOR A HAND-IN. Each laying: the table of numbers ('.._ren') and one theorem, a field a fact of the dump's own or the kernel's comparison; each contract: ONE APPLICATION.
-/
import Derived.Shelf.SlSortCmp.WholeK
import Derived.Shelf.SlSortCmp.NoneTotal
import Derived.Shelf.SlicesE.Clone
import Derived.Shelf.SlicesQ.IndexFunc
import Derived.Ground.SlsfProg
import Derived.Ground.SlgfProg
import Derived.Ground.SlgnProg
import Derived.Test.YtgchajlfopmcjaaProg
namespace Go.Proofs
open Go.Shelf
def Try.sortE_ren : Go.Shelf.Ren := ⟨fun | 6 => 51 | 15 => 58 | 14 => 68 | 28 => 70 | 29 => 71 | 20 => 78 | 21 => 79 | 22 => 80 | 23 => 81 | 24 => 82 | 25 => 83 | 26 => 84 | 27 => 85 | 46 => 88 | 47 => 89 | 48 => 90 | 49 => 91 | 50 => 92 | 57 => 93 | n => n, fun | 22 => 47 | 24 => 85 | 25 => 92 | 3 => 3 | 39 => 97 | 0 => 0 | 53 => 81 | 55 => 108 | 4 => 4 | 46 => 118 | 45 => 117 | 50 => 122 | 5 => 5 | 9 => 9 | 66 => 126 | 70 => 130 | 76 => 132 | 77 => 133 | n => n, fun | n => n⟩
theorem Try.sortE : Go.Proofs.SlLaysF0.n6 Try.prog Try.sortE_ren := {
  mixed := by kernel_rfl
  f6 := ⟨Try.f51.name, by decide, Try.func51.trans (congrArg some (by kernel_rfl))⟩
  f14 := ⟨Try.f68.name, by decide, Try.func68.trans (congrArg some (by kernel_rfl))⟩
  f15 := Try.func58.trans (congrArg some (by kernel_rfl))
  f20 := ⟨Try.f78.name, by decide, Try.func78.trans (congrArg some (by kernel_rfl))⟩
  f21 := ⟨Try.f79.name, by decide, Try.func79.trans (congrArg some (by kernel_rfl))⟩
  f22 := ⟨Try.f80.name, by decide, Try.func80.trans (congrArg some (by kernel_rfl))⟩
  f23 := ⟨Try.f81.name, by decide, Try.func81.trans (congrArg some (by kernel_rfl))⟩
  f24 := ⟨Try.f82.name, by decide, Try.func82.trans (congrArg some (by kernel_rfl))⟩
  f25 := ⟨Try.f83.name, by decide, Try.func83.trans (congrArg some (by kernel_rfl))⟩
  f26 := ⟨Try.f84.name, by decide, Try.func84.trans (congrArg some (by kernel_rfl))⟩
  f27 := ⟨Try.f85.name, by decide, Try.func85.trans (congrArg some (by kernel_rfl))⟩
  f28 := Try.func70.trans (congrArg some (by kernel_rfl))
  f29 := Try.func71.trans (congrArg some (by kernel_rfl))
  f46 := ⟨Try.f88.name, by decide, Try.func88.trans (congrArg some (by kernel_rfl))⟩
  f47 := Try.func89.trans (congrArg some (by kernel_rfl))
  f48 := Try.func90.trans (congrArg some (by kernel_rfl))
  f49 := ⟨Try.f91.name, by decide, Try.func91.trans (congrArg some (by kernel_rfl))⟩
  f50 := ⟨Try.f92.name, by decide, Try.func92.trans (congrArg some (by kernel_rfl))⟩
  f57 := ⟨Try.f93.name, by decide, Try.func93.trans (congrArg some (by kernel_rfl))⟩
  t0 := Try.underlying0
  a0 := Try.isAgg0
  z0 := Try.sizeOf0
  v0 := Try.zeroValue0
  t3 := Try.underlying3
  a3 := Try.isAgg3
  z3 := Try.sizeOf3
  v3 := Try.zeroValue3
  t4 := Try.underlying4
  a4 := Try.isAgg4
  z4 := Try.sizeOf4
  v4 := Try.zeroValue4
  t5 := Try.underlying5
  a5 := Try.isAgg5
  z5 := Try.sizeOf5
  v5 := Try.zeroValue5
  t9 := Try.underlying9
  a9 := Try.isAgg9
  z9 := Try.sizeOf9
  v9 := Try.zeroValue9
  t22 := Try.underlying47
  a22 := Try.isAgg47
  z22 := Try.sizeOf47
  v22 := Try.zeroValue47
  t25 := Try.underlying92
  a25 := Try.isAgg92
  z25 := Try.sizeOf92
  v25 := Try.zeroValue92
  t39 := Try.underlying97
  a39 := Try.isAgg97
  z39 := Try.sizeOf97
  v39 := Try.zeroValue97
  t45 := Try.underlying117
  a45 := Try.isAgg117
  z45 := Try.sizeOf117
  v45 := Try.zeroValue117
  t46 := Try.underlying118
  a46 := Try.isAgg118
  z46 := Try.sizeOf118
  v46 := Try.zeroValue118
  t50 := Try.underlying122
  a50 := Try.isAgg122
  z50 := Try.sizeOf122
  v50 := Try.zeroValue122
  t53 := Try.underlying81
  a53 := Try.isAgg81
  z53 := Try.sizeOf81
  v53 := Try.zeroValue81
  t55 := Try.underlying108
  a55 := Try.isAgg108
  z55 := Try.sizeOf108
  v55 := Try.zeroValue108
  t66 := Try.underlying126
  a66 := Try.isAgg126
  z66 := Try.sizeOf126
  v66 := Try.zeroValue126
  t70 := Try.underlying130
  a70 := Try.isAgg130
  z70 := Try.sizeOf130
  v70 := Try.zeroValue130
  t76 := Try.underlying132
  a76 := Try.isAgg132
  z76 := Try.sizeOf132
  v76 := Try.zeroValue132
  t77 := Try.underlying133
  a77 := Try.isAgg133
  z77 := Try.sizeOf133
  v77 := Try.zeroValue133 }
def Try.cloneE_ren : Go.Shelf.Ren := ⟨fun | 41 => 49 | n => n, fun | 22 => 47 | 23 => 85 | 4 => 4 | n => n, fun | n => n⟩
theorem Try.cloneE : Go.Proofs.SlLaysE0.n41 Try.prog Try.cloneE_ren := {
  mixed := by kernel_rfl
  f41 := ⟨Try.f49.name, by decide, Try.func49.trans (congrArg some (by kernel_rfl))⟩
  t4 := Try.underlying4
  a4 := Try.isAgg4
  z4 := Try.sizeOf4
  v4 := Try.zeroValue4
  t22 := Try.underlying47
  a22 := Try.isAgg47
  z22 := Try.sizeOf47
  v22 := Try.zeroValue47 }
def Try.idxE_ren : Go.Shelf.Ren := ⟨fun | 6 => 67 | n => n, fun | 22 => 47 | 23 => 85 | 25 => 89 | 3 => 3 | 0 => 0 | 4 => 4 | n => n, fun | n => n⟩
theorem Try.idxE : Go.Proofs.SlLaysH0.n6 Try.prog Try.idxE_ren := {
  mixed := by kernel_rfl
  f6 := ⟨Try.f67.name, by decide, Try.func67.trans (congrArg some (by kernel_rfl))⟩
  t0 := Try.underlying0
  a0 := Try.isAgg0
  z0 := Try.sizeOf0
  v0 := Try.zeroValue0
  t3 := Try.underlying3
  a3 := Try.isAgg3
  z3 := Try.sizeOf3
  v3 := Try.zeroValue3
  t4 := Try.underlying4
  a4 := Try.isAgg4
  z4 := Try.sizeOf4
  v4 := Try.zeroValue4
  t22 := Try.underlying47
  a22 := Try.isAgg47
  z22 := Try.sizeOf47
  v22 := Try.zeroValue47
  t25 := Try.underlying89
  a25 := Try.isAgg89
  z25 := Try.sizeOf89
  v25 := Try.zeroValue89 }
def Try.idxT_ren : Go.Shelf.Ren := ⟨fun | 6 => 39 | n => n, fun | 22 => 22 | 23 => 33 | 25 => 76 | 3 => 3 | 0 => 0 | 4 => 4 | n => n, fun | n => n⟩
theorem Try.idxT : Go.Proofs.SlLaysH0.n6 Try.prog Try.idxT_ren := {
  mixed := by kernel_rfl
  f6 := ⟨Try.f39.name, by decide, Try.func39.trans (congrArg some (by kernel_rfl))⟩
  t0 := Try.underlying0
  a0 := Try.isAgg0
  z0 := Try.sizeOf0
  v0 := Try.zeroValue0
  t3 := Try.underlying3
  a3 := Try.isAgg3
  z3 := Try.sizeOf3
  v3 := Try.zeroValue3
  t4 := Try.underlying4
  a4 := Try.isAgg4
  z4 := Try.sizeOf4
  v4 := Try.zeroValue4
  t22 := Try.underlying22
  a22 := Try.isAgg22
  z22 := Try.sizeOf22
  v22 := Try.zeroValue22
  t25 := Try.underlying76
  a25 := Try.isAgg76
  z25 := Try.sizeOf76
  v25 := Try.zeroValue76 }
end Go.Proofs
