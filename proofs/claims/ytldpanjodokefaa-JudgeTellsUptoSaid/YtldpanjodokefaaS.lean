/- The shelf's contracts of library calls, at this program: which of its numbers are which of ours. No condition. -/
import Derived.Test.YtldpanjodokefaaE
import Derived.Test.YtldpanjodokefaaK13
import Derived.Test.YtldpanjodokefaaK15
import Derived.Ground.SlsfProg
import Derived.Shelf.SlMaps.Clone
import Derived.Ground.SlmcProg
namespace Go.Proofs.Ytldpanjodokefaa
namespace Fw
open Go.Shelf Go.RowKit Go.Maps Go.Sort
def sort44_ren : Go.Shelf.Ren := ⟨fun | 6 => 44 | 15 => 51 | 14 => 50 | 28 => 60 | 29 => 61 | 20 => 52 | 21 => 53 | 22 => 54 | 23 => 55 | 24 => 56 | 25 => 57 | 26 => 58 | 27 => 59 | 46 => 62 | 47 => 63 | 48 => 64 | 49 => 65 | 50 => 66 | 57 => 67 | n => n, fun | 22 => 29 | 24 => 27 | 25 => 73 | 3 => 3 | 39 => 92 | 0 => 0 | 53 => 101 | 55 => 103 | 4 => 4 | 46 => 95 | 45 => 94 | 50 => 63 | 5 => 5 | 9 => 9 | 66 => 104 | 70 => 108 | 76 => 110 | 77 => 41 | n => n, fun | n => n⟩
theorem sort44 : Go.Proofs.SlLaysF0.n6 Try.prog sort44_ren := {
  mixed := by kernel_rfl
  f6 := ⟨Try.f44.name, by decide, Try.func44.trans (congrArg some (by kernel_rfl))⟩
  f14 := ⟨Try.f50.name, by decide, Try.func50.trans (congrArg some (by kernel_rfl))⟩
  f15 := Try.func51.trans (congrArg some (by kernel_rfl))
  f20 := ⟨Try.f52.name, by decide, Try.func52.trans (congrArg some (by kernel_rfl))⟩
  f21 := ⟨Try.f53.name, by decide, Try.func53.trans (congrArg some (by kernel_rfl))⟩
  f22 := ⟨Try.f54.name, by decide, Try.func54.trans (congrArg some (by kernel_rfl))⟩
  f23 := ⟨Try.f55.name, by decide, Try.func55.trans (congrArg some (by kernel_rfl))⟩
  f24 := ⟨Try.f56.name, by decide, Try.func56.trans (congrArg some (by kernel_rfl))⟩
  f25 := ⟨Try.f57.name, by decide, Try.func57.trans (congrArg some (by kernel_rfl))⟩
  f26 := ⟨Try.f58.name, by decide, Try.func58.trans (congrArg some (by kernel_rfl))⟩
  f27 := ⟨Try.f59.name, by decide, Try.func59.trans (congrArg some (by kernel_rfl))⟩
  f28 := Try.func60.trans (congrArg some (by kernel_rfl))
  f29 := Try.func61.trans (congrArg some (by kernel_rfl))
  f46 := ⟨Try.f62.name, by decide, Try.func62.trans (congrArg some (by kernel_rfl))⟩
  f47 := Try.func63.trans (congrArg some (by kernel_rfl))
  f48 := Try.func64.trans (congrArg some (by kernel_rfl))
  f49 := ⟨Try.f65.name, by decide, Try.func65.trans (congrArg some (by kernel_rfl))⟩
  f50 := ⟨Try.f66.name, by decide, Try.func66.trans (congrArg some (by kernel_rfl))⟩
  f57 := ⟨Try.f67.name, by decide, Try.func67.trans (congrArg some (by kernel_rfl))⟩
  t0 := Try.underlying0
  a0 := Try.isAgg0
  z0 := Try.sizeOf0
  v0 := Try.zeroValue0
  t3 := Try.underlying3
  a3 := Try.isAgg3
  z3 := Try.sizeOf3
  v3 := Try.zeroValue3
  t4 := Try.underlying4
  a4 := Try.isAgg4
  z4 := Try.sizeOf4
  v4 := Try.zeroValue4
  t5 := Try.underlying5
  a5 := Try.isAgg5
  z5 := Try.sizeOf5
  v5 := Try.zeroValue5
  t9 := Try.underlying9
  a9 := Try.isAgg9
  z9 := Try.sizeOf9
  v9 := Try.zeroValue9
  t22 := Try.underlying29
  a22 := Try.isAgg29
  z22 := Try.sizeOf29
  v22 := Try.zeroValue29
  t25 := Try.underlying73
  a25 := Try.isAgg73
  z25 := Try.sizeOf73
  v25 := Try.zeroValue73
  t39 := Try.underlying92
  a39 := Try.isAgg92
  z39 := Try.sizeOf92
  v39 := Try.zeroValue92
  t45 := Try.underlying94
  a45 := Try.isAgg94
  z45 := Try.sizeOf94
  v45 := Try.zeroValue94
  t46 := Try.underlying95
  a46 := Try.isAgg95
  z46 := Try.sizeOf95
  v46 := Try.zeroValue95
  t50 := Try.underlying63
  a50 := Try.isAgg63
  z50 := Try.sizeOf63
  v50 := Try.zeroValue63
  t53 := Try.underlying101
  a53 := Try.isAgg101
  z53 := Try.sizeOf101
  v53 := Try.zeroValue101
  t55 := Try.underlying103
  a55 := Try.isAgg103
  z55 := Try.sizeOf103
  v55 := Try.zeroValue103
  t66 := Try.underlying104
  a66 := Try.isAgg104
  z66 := Try.sizeOf104
  v66 := Try.zeroValue104
  t70 := Try.underlying108
  a70 := Try.isAgg108
  z70 := Try.sizeOf108
  v70 := Try.zeroValue108
  t76 := Try.underlying110
  a76 := Try.isAgg110
  z76 := Try.sizeOf110
  v76 := Try.zeroValue110
  t77 := Try.underlying41
  a77 := Try.isAgg41
  z77 := Try.sizeOf41
  v77 := Try.zeroValue41 }
def clone35_ren : Go.Shelf.Ren := ⟨fun | 5 => 35 | 7 => 48 | n => n, fun | 23 => 52 | 25 => 27 | 3 => 4 | 4 => 4 | 20 => 20 | n => n, fun | n => n⟩
theorem clone35 : Go.Proofs.SlLaysW.n5 Try.prog clone35_ren := {
  mixed := by kernel_rfl
  f5 := ⟨Try.f35.name, by decide, Try.func35.trans (congrArg some (by kernel_rfl))⟩
  f7 := Try.func48.trans (congrArg some (by kernel_rfl))
  t4 := Try.underlying4
  a4 := Try.isAgg4
  z4 := Try.sizeOf4
  v4 := Try.zeroValue4
  t20 := Try.underlying20
  a20 := Try.isAgg20
  z20 := Try.sizeOf20
  v20 := Try.zeroValue20
  t23 := Try.underlying52
  a23 := Try.isAgg52
  z23 := Try.sizeOf52
  v23 := Try.zeroValue52 }

end Fw
end Go.Proofs.Ytldpanjodokefaa
