/- The shelf's contracts of library calls, at this program: which of its numbers are which of ours. No condition. -/
import Derived.Test.YtogcoieekhbfdaaE
import Derived.Test.YtogcoieekhbfdaaK15
import Derived.Shelf.SlMaps.Clone
import Derived.Ground.SlmcProg
import Derived.Shelf.SlIter.Nil
import Derived.Ground.GgzProg
import Derived.Ground.SlgmProg
import Derived.Shelf.SortM.Plain
import Derived.Shelf.SortM.SortNone
namespace Go.Proofs.Ytogcoieekhbfdaa
namespace Fw
open Go.Shelf Go.RowKit Go.Maps Go.Sort
def clone49_ren : Go.Shelf.Ren := ⟨fun | 5 => 49 | 7 => 62 | n => n, fun | 23 => 49 | 25 => 9 | 3 => 31 | 4 => 4 | 20 => 20 | n => n, fun | n => n⟩
theorem clone49 : Go.Proofs.SlLaysW.n5 Try.prog clone49_ren := {
  mixed := by kernel_rfl
  f5 := ⟨Try.f49.name, by decide, Try.func49.trans (congrArg some (by kernel_rfl))⟩
  f7 := Try.func62.trans (congrArg some (by kernel_rfl))
  t4 := Try.underlying4
  a4 := Try.isAgg4
  z4 := Try.sizeOf4
  v4 := Try.zeroValue4
  t20 := Try.underlying20
  a20 := Try.isAgg20
  z20 := Try.sizeOf20
  v20 := Try.zeroValue20
  t23 := Try.underlying49
  a23 := Try.isAgg49
  z23 := Try.sizeOf49
  v23 := Try.zeroValue49 }
def keys37_ren : Go.Shelf.Ren := ⟨fun | 7 => 37 | 10 => 59 | n => n, fun | 23 => 49 | 26 => 9 | 3 => 31 | 28 => 70 | 0 => 0 | 27 => 69 | 33 => 96 | 4 => 4 | n => n, fun | n => n⟩
theorem keys37 : Go.Proofs.SlLaysZ.n7 Try.prog keys37_ren := {
  mixed := by kernel_rfl
  f7 := ⟨Try.f37.name, by decide, Try.func37.trans (congrArg some (by kernel_rfl))⟩
  f10 := ⟨Try.f59.name, by decide, Try.func59.trans (congrArg some (by kernel_rfl))⟩
  t0 := Try.underlying0
  a0 := Try.isAgg0
  z0 := Try.sizeOf0
  v0 := Try.zeroValue0
  t4 := Try.underlying4
  a4 := Try.isAgg4
  z4 := Try.sizeOf4
  v4 := Try.zeroValue4
  t23 := Try.underlying49
  a23 := Try.isAgg49
  z23 := Try.sizeOf49
  v23 := Try.zeroValue49
  t26 := Try.underlying9
  a26 := Try.isAgg9
  z26 := Try.sizeOf9
  v26 := Try.zeroValue9
  t27 := Try.underlying69
  a27 := Try.isAgg69
  z27 := Try.sizeOf69
  v27 := Try.zeroValue69
  t28 := Try.underlying70
  a28 := Try.isAgg70
  z28 := Try.sizeOf70
  v28 := Try.zeroValue70
  t33 := Try.underlying96
  a33 := Try.isAgg96
  z33 := Try.sizeOf96
  v33 := Try.zeroValue96 }
def sorted36_ren : Go.Shelf.Ren := ⟨fun | 6 => 36 | 8 => 57 | 9 => 58 | 11 => 70 | 13 => 72 | 12 => 71 | 23 => 90 | 24 => 91 | 14 => 81 | 15 => 82 | 16 => 83 | 17 => 84 | 18 => 85 | 19 => 86 | 20 => 87 | 21 => 88 | 22 => 89 | 25 => 95 | 26 => 96 | 27 => 97 | 28 => 98 | 29 => 99 | 30 => 100 | 31 => 101 | n => n, fun | 26 => 9 | 28 => 70 | 24 => 32 | 0 => 0 | 3 => 3 | 37 => 98 | 48 => 92 | 50 => 97 | 4 => 4 | 40 => 121 | 39 => 120 | 45 => 125 | 5 => 5 | 9 => 9 | 51 => 131 | 55 => 135 | 57 => 137 | 58 => 138 | 33 => 96 | n => n, fun | n => n⟩
theorem sorted36 : Go.Proofs.SlLaysZ.n6 Try.prog sorted36_ren := {
  mixed := by kernel_rfl
  f6 := ⟨Try.f36.name, by decide, Try.func36.trans (congrArg some (by kernel_rfl))⟩
  f8 := ⟨Try.f57.name, by decide, Try.func57.trans (congrArg some (by kernel_rfl))⟩
  f11 := ⟨Try.f70.name, by decide, Try.func70.trans (congrArg some (by kernel_rfl))⟩
  t0 := Try.underlying0
  a0 := Try.isAgg0
  z0 := Try.sizeOf0
  v0 := Try.zeroValue0
  t24 := Try.underlying32
  a24 := Try.isAgg32
  z24 := Try.sizeOf32
  v24 := Try.zeroValue32
  t26 := Try.underlying9
  a26 := Try.isAgg9
  z26 := Try.sizeOf9
  v26 := Try.zeroValue9
  t28 := Try.underlying70
  a28 := Try.isAgg70
  z28 := Try.sizeOf70
  v28 := Try.zeroValue70
  i26 := by kernel_rfl }
def srt58_ren : Go.Shelf.Ren := ⟨fun | 6 => 58 | 8 => 72 | 9 => 71 | 19 => 90 | 20 => 91 | 21 => 81 | 22 => 82 | 23 => 83 | 24 => 84 | 25 => 85 | 26 => 86 | 27 => 87 | 28 => 88 | 29 => 89 | 36 => 95 | 31 => 96 | 32 => 97 | 37 => 98 | 38 => 99 | 39 => 100 | 41 => 101 | n => n, fun | 27 => 32 | 29 => 9 | 3 => 3 | 32 => 98 | 26 => 32 | 0 => 0 | 44 => 92 | 46 => 97 | 4 => 4 | 36 => 121 | 35 => 120 | 41 => 125 | 5 => 5 | 9 => 9 | 53 => 131 | 57 => 135 | 63 => 137 | 64 => 138 | n => n, fun | n => n⟩
theorem srt58 : Go.Proofs.SlLaysM.n6 Try.prog srt58_ren := {
  mixed := by kernel_rfl
  f6 := ⟨Try.f58.name, by decide, Try.func58.trans (congrArg some (by kernel_rfl))⟩
  f8 := Try.func72.trans (congrArg some (by kernel_rfl))
  f9 := ⟨Try.f71.name, by decide, Try.func71.trans (congrArg some (by kernel_rfl))⟩
  f19 := Try.func90.trans (congrArg some (by kernel_rfl))
  f20 := Try.func91.trans (congrArg some (by kernel_rfl))
  f21 := ⟨Try.f81.name, by decide, Try.func81.trans (congrArg some (by kernel_rfl))⟩
  f22 := ⟨Try.f82.name, by decide, Try.func82.trans (congrArg some (by kernel_rfl))⟩
  f23 := ⟨Try.f83.name, by decide, Try.func83.trans (congrArg some (by kernel_rfl))⟩
  f24 := ⟨Try.f84.name, by decide, Try.func84.trans (congrArg some (by kernel_rfl))⟩
  f25 := ⟨Try.f85.name, by decide, Try.func85.trans (congrArg some (by kernel_rfl))⟩
  f26 := ⟨Try.f86.name, by decide, Try.func86.trans (congrArg some (by kernel_rfl))⟩
  f27 := ⟨Try.f87.name, by decide, Try.func87.trans (congrArg some (by kernel_rfl))⟩
  f28 := ⟨Try.f88.name, by decide, Try.func88.trans (congrArg some (by kernel_rfl))⟩
  f29 := ⟨Try.f89.name, by decide, Try.func89.trans (congrArg some (by kernel_rfl))⟩
  f31 := Try.func96.trans (congrArg some (by kernel_rfl))
  f32 := Try.func97.trans (congrArg some (by kernel_rfl))
  f36 := ⟨Try.f95.name, by decide, Try.func95.trans (congrArg some (by kernel_rfl))⟩
  f37 := ⟨Try.f98.name, by decide, Try.func98.trans (congrArg some (by kernel_rfl))⟩
  f38 := ⟨Try.f99.name, by decide, Try.func99.trans (congrArg some (by kernel_rfl))⟩
  f39 := ⟨Try.f100.name, by decide, Try.func100.trans (congrArg some (by kernel_rfl))⟩
  f41 := ⟨Try.f101.name, by decide, Try.func101.trans (congrArg some (by kernel_rfl))⟩
  t0 := Try.underlying0
  a0 := Try.isAgg0
  z0 := Try.sizeOf0
  v0 := Try.zeroValue0
  t3 := Try.underlying3
  a3 := Try.isAgg3
  z3 := Try.sizeOf3
  v3 := Try.zeroValue3
  t4 := Try.underlying4
  a4 := Try.isAgg4
  z4 := Try.sizeOf4
  v4 := Try.zeroValue4
  t5 := Try.underlying5
  a5 := Try.isAgg5
  z5 := Try.sizeOf5
  v5 := Try.zeroValue5
  t9 := Try.underlying9
  a9 := Try.isAgg9
  z9 := Try.sizeOf9
  v9 := Try.zeroValue9
  t26 := Try.underlying32
  a26 := Try.isAgg32
  z26 := Try.sizeOf32
  v26 := Try.zeroValue32
  t27 := Try.underlying32
  a27 := Try.isAgg32
  z27 := Try.sizeOf32
  v27 := Try.zeroValue32
  t29 := Try.underlying9
  a29 := Try.isAgg9
  z29 := Try.sizeOf9
  v29 := Try.zeroValue9
  t32 := Try.underlying98
  a32 := Try.isAgg98
  z32 := Try.sizeOf98
  v32 := Try.zeroValue98
  t35 := Try.underlying120
  a35 := Try.isAgg120
  z35 := Try.sizeOf120
  v35 := Try.zeroValue120
  t36 := Try.underlying121
  a36 := Try.isAgg121
  z36 := Try.sizeOf121
  v36 := Try.zeroValue121
  t41 := Try.underlying125
  a41 := Try.isAgg125
  z41 := Try.sizeOf125
  v41 := Try.zeroValue125
  t44 := Try.underlying92
  a44 := Try.isAgg92
  z44 := Try.sizeOf92
  v44 := Try.zeroValue92
  t46 := Try.underlying97
  a46 := Try.isAgg97
  z46 := Try.sizeOf97
  v46 := Try.zeroValue97
  t53 := Try.underlying131
  a53 := Try.isAgg131
  z53 := Try.sizeOf131
  v53 := Try.zeroValue131
  t57 := Try.underlying135
  a57 := Try.isAgg135
  z57 := Try.sizeOf135
  v57 := Try.zeroValue135
  t63 := Try.underlying137
  a63 := Try.isAgg137
  z63 := Try.sizeOf137
  v63 := Try.zeroValue137
  t64 := Try.underlying138
  a64 := Try.isAgg138
  z64 := Try.sizeOf138
  v64 := Try.zeroValue138 }
theorem sorts36 (m : Nat) : AnyZ.SortsIn Try.prog sorted36_ren Fence.wide m :=
  ⟨fun blk off cap ss W hH hblk hsz => callsIn_wide.2 (AnyM.slices_Sort_string srt58 blk off cap ss W hH hblk hsz), fun p cap W => callsIn_wide.2 (AnyM.slices_Sort_string_none srt58 p cap W)⟩
theorem sk36_37 {hk : Try.prog.underlying 9 = some .string} {β : Type} {V : Tv β} {Γ : Gh} {row : Rowb} {g t gb : Nat} {es : List (ByteArray × β)} {w : World} (hm : MapO (strK hk) V Γ row g es) (hn : es.length ≤ lim) (hp : Pre [[(gb, .cells #[.map (some g)] t)], row] Γ w) :
    Calls Try.prog 36 #[.func (.func 59) #[] #[.pointer (some ⟨gb, 0, none⟩)]] w (Outc Γ [[(gb, .cells #[.map (some g)] t)], row] w fun U Δ v => ∃ A c row', v = .slice A (skeys es).length c ∧ U = [[(gb, .cells #[.map (some g)] t)], row, row'] ∧ Own strT Δ 9 row' A c (skeys es)) :=
  sorted_keys (ρ := keys37_ren) (ρ' := sorted36_ren) { keys37 with } sorted36 rfl (sorts36 _) (enters_of Try.func58 (by kernel_rfl) rfl) (enters_of Try.func59 (by kernel_rfl) rfl) rfl hk hm hn hp
end Fw
end Go.Proofs.Ytogcoieekhbfdaa
