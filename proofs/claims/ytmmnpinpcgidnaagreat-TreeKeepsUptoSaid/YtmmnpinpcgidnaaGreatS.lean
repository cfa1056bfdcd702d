/- The shelf's contracts of library calls, at this program: which of its numbers are which of ours. No condition. -/
import Derived.Test.YtmmnpinpcgidnaaGreatE
import Derived.Test.YtmmnpinpcgidnaaGreatK15
import Derived.Shelf.SlIter.Nil
import Derived.Ground.GgzProg
import Derived.Ground.SlgmProg
import Derived.Shelf.SortM.Plain
import Derived.Shelf.SortM.SortNone
namespace Go.Proofs.YtmmnpinpcgidnaaGreat
namespace Fw
open Go.Shelf Go.RowKit Go.Maps Go.Sort
def keys34_ren : Go.Shelf.Ren := ⟨fun | 7 => 34 | 10 => 49 | n => n, fun | 23 => 62 | 26 => 9 | 3 => 41 | 28 => 95 | 0 => 0 | 27 => 94 | 33 => 106 | 4 => 4 | n => n, fun | n => n⟩
theorem keys34 : Go.Proofs.SlLaysZ.n7 Tryz.prog keys34_ren := {
  mixed := by kernel_rfl
  f7 := ⟨Tryz.f34.name, by decide, Tryz.func34.trans (congrArg some (by kernel_rfl))⟩
  f10 := ⟨Tryz.f49.name, by decide, Tryz.func49.trans (congrArg some (by kernel_rfl))⟩
  t0 := Tryz.underlying0
  a0 := Tryz.isAgg0
  z0 := Tryz.sizeOf0
  v0 := Tryz.zeroValue0
  t4 := Tryz.underlying4
  a4 := Tryz.isAgg4
  z4 := Tryz.sizeOf4
  v4 := Tryz.zeroValue4
  t23 := Tryz.underlying62
  a23 := Tryz.isAgg62
  z23 := Tryz.sizeOf62
  v23 := Tryz.zeroValue62
  t26 := Tryz.underlying9
  a26 := Tryz.isAgg9
  z26 := Tryz.sizeOf9
  v26 := Tryz.zeroValue9
  t27 := Tryz.underlying94
  a27 := Tryz.isAgg94
  z27 := Tryz.sizeOf94
  v27 := Tryz.zeroValue94
  t28 := Tryz.underlying95
  a28 := Tryz.isAgg95
  z28 := Tryz.sizeOf95
  v28 := Tryz.zeroValue95
  t33 := Tryz.underlying106
  a33 := Tryz.isAgg106
  z33 := Tryz.sizeOf106
  v33 := Tryz.zeroValue106 }
def sorted33_ren : Go.Shelf.Ren := ⟨fun | 6 => 33 | 8 => 47 | 9 => 48 | 11 => 65 | 13 => 67 | 12 => 66 | 23 => 88 | 24 => 89 | 14 => 79 | 15 => 80 | 16 => 81 | 17 => 82 | 18 => 83 | 19 => 84 | 20 => 85 | 21 => 86 | 22 => 87 | 25 => 101 | 26 => 102 | 27 => 103 | 28 => 104 | 29 => 105 | 30 => 106 | 31 => 114 | n => n, fun | 26 => 9 | 28 => 95 | 24 => 92 | 0 => 0 | 3 => 3 | 37 => 100 | 48 => 71 | 50 => 28 | 4 => 4 | 40 => 132 | 39 => 131 | 45 => 137 | 5 => 5 | 9 => 9 | 51 => 148 | 55 => 152 | 57 => 158 | 58 => 159 | 33 => 106 | n => n, fun | n => n⟩
theorem sorted33 : Go.Proofs.SlLaysZ.n6 Tryz.prog sorted33_ren := {
  mixed := by kernel_rfl
  f6 := ⟨Tryz.f33.name, by decide, Tryz.func33.trans (congrArg some (by kernel_rfl))⟩
  f8 := ⟨Tryz.f47.name, by decide, Tryz.func47.trans (congrArg some (by kernel_rfl))⟩
  f11 := ⟨Tryz.f65.name, by decide, Tryz.func65.trans (congrArg some (by kernel_rfl))⟩
  t0 := Tryz.underlying0
  a0 := Tryz.isAgg0
  z0 := Tryz.sizeOf0
  v0 := Tryz.zeroValue0
  t24 := Tryz.underlying92
  a24 := Tryz.isAgg92
  z24 := Tryz.sizeOf92
  v24 := Tryz.zeroValue92
  t26 := Tryz.underlying9
  a26 := Tryz.isAgg9
  z26 := Tryz.sizeOf9
  v26 := Tryz.zeroValue9
  t28 := Tryz.underlying95
  a28 := Tryz.isAgg95
  z28 := Tryz.sizeOf95
  v28 := Tryz.zeroValue95
  i26 := by kernel_rfl }
def srt48_ren : Go.Shelf.Ren := ⟨fun | 6 => 48 | 8 => 67 | 9 => 66 | 19 => 88 | 20 => 89 | 21 => 79 | 22 => 80 | 23 => 81 | 24 => 82 | 25 => 83 | 26 => 84 | 27 => 85 | 28 => 86 | 29 => 87 | 36 => 101 | 31 => 102 | 32 => 103 | 37 => 104 | 38 => 105 | 39 => 106 | 41 => 114 | n => n, fun | 27 => 92 | 29 => 9 | 3 => 3 | 32 => 100 | 26 => 92 | 0 => 0 | 44 => 71 | 46 => 28 | 4 => 4 | 36 => 132 | 35 => 131 | 41 => 137 | 5 => 5 | 9 => 9 | 53 => 148 | 57 => 152 | 63 => 158 | 64 => 159 | n => n, fun | n => n⟩
theorem srt48 : Go.Proofs.SlLaysM.n6 Tryz.prog srt48_ren := {
  mixed := by kernel_rfl
  f6 := ⟨Tryz.f48.name, by decide, Tryz.func48.trans (congrArg some (by kernel_rfl))⟩
  f8 := Tryz.func67.trans (congrArg some (by kernel_rfl))
  f9 := ⟨Tryz.f66.name, by decide, Tryz.func66.trans (congrArg some (by kernel_rfl))⟩
  f19 := Tryz.func88.trans (congrArg some (by kernel_rfl))
  f20 := Tryz.func89.trans (congrArg some (by kernel_rfl))
  f21 := ⟨Tryz.f79.name, by decide, Tryz.func79.trans (congrArg some (by kernel_rfl))⟩
  f22 := ⟨Tryz.f80.name, by decide, Tryz.func80.trans (congrArg some (by kernel_rfl))⟩
  f23 := ⟨Tryz.f81.name, by decide, Tryz.func81.trans (congrArg some (by kernel_rfl))⟩
  f24 := ⟨Tryz.f82.name, by decide, Tryz.func82.trans (congrArg some (by kernel_rfl))⟩
  f25 := ⟨Tryz.f83.name, by decide, Tryz.func83.trans (congrArg some (by kernel_rfl))⟩
  f26 := ⟨Tryz.f84.name, by decide, Tryz.func84.trans (congrArg some (by kernel_rfl))⟩
  f27 := ⟨Tryz.f85.name, by decide, Tryz.func85.trans (congrArg some (by kernel_rfl))⟩
  f28 := ⟨Tryz.f86.name, by decide, Tryz.func86.trans (congrArg some (by kernel_rfl))⟩
  f29 := ⟨Tryz.f87.name, by decide, Tryz.func87.trans (congrArg some (by kernel_rfl))⟩
  f31 := Tryz.func102.trans (congrArg some (by kernel_rfl))
  f32 := Tryz.func103.trans (congrArg some (by kernel_rfl))
  f36 := ⟨Tryz.f101.name, by decide, Tryz.func101.trans (congrArg some (by kernel_rfl))⟩
  f37 := ⟨Tryz.f104.name, by decide, Tryz.func104.trans (congrArg some (by kernel_rfl))⟩
  f38 := ⟨Tryz.f105.name, by decide, Tryz.func105.trans (congrArg some (by kernel_rfl))⟩
  f39 := ⟨Tryz.f106.name, by decide, Tryz.func106.trans (congrArg some (by kernel_rfl))⟩
  f41 := ⟨Tryz.f114.name, by decide, Tryz.func114.trans (congrArg some (by kernel_rfl))⟩
  t0 := Tryz.underlying0
  a0 := Tryz.isAgg0
  z0 := Tryz.sizeOf0
  v0 := Tryz.zeroValue0
  t3 := Tryz.underlying3
  a3 := Tryz.isAgg3
  z3 := Tryz.sizeOf3
  v3 := Tryz.zeroValue3
  t4 := Tryz.underlying4
  a4 := Tryz.isAgg4
  z4 := Tryz.sizeOf4
  v4 := Tryz.zeroValue4
  t5 := Tryz.underlying5
  a5 := Tryz.isAgg5
  z5 := Tryz.sizeOf5
  v5 := Tryz.zeroValue5
  t9 := Tryz.underlying9
  a9 := Tryz.isAgg9
  z9 := Tryz.sizeOf9
  v9 := Tryz.zeroValue9
  t26 := Tryz.underlying92
  a26 := Tryz.isAgg92
  z26 := Tryz.sizeOf92
  v26 := Tryz.zeroValue92
  t27 := Tryz.underlying92
  a27 := Tryz.isAgg92
  z27 := Tryz.sizeOf92
  v27 := Tryz.zeroValue92
  t29 := Tryz.underlying9
  a29 := Tryz.isAgg9
  z29 := Tryz.sizeOf9
  v29 := Tryz.zeroValue9
  t32 := Tryz.underlying100
  a32 := Tryz.isAgg100
  z32 := Tryz.sizeOf100
  v32 := Tryz.zeroValue100
  t35 := Tryz.underlying131
  a35 := Tryz.isAgg131
  z35 := Tryz.sizeOf131
  v35 := Tryz.zeroValue131
  t36 := Tryz.underlying132
  a36 := Tryz.isAgg132
  z36 := Tryz.sizeOf132
  v36 := Tryz.zeroValue132
  t41 := Tryz.underlying137
  a41 := Tryz.isAgg137
  z41 := Tryz.sizeOf137
  v41 := Tryz.zeroValue137
  t44 := Tryz.underlying71
  a44 := Tryz.isAgg71
  z44 := Tryz.sizeOf71
  v44 := Tryz.zeroValue71
  t46 := Tryz.underlying28
  a46 := Tryz.isAgg28
  z46 := Tryz.sizeOf28
  v46 := Tryz.zeroValue28
  t53 := Tryz.underlying148
  a53 := Tryz.isAgg148
  z53 := Tryz.sizeOf148
  v53 := Tryz.zeroValue148
  t57 := Tryz.underlying152
  a57 := Tryz.isAgg152
  z57 := Tryz.sizeOf152
  v57 := Tryz.zeroValue152
  t63 := Tryz.underlying158
  a63 := Tryz.isAgg158
  z63 := Tryz.sizeOf158
  v63 := Tryz.zeroValue158
  t64 := Tryz.underlying159
  a64 := Tryz.isAgg159
  z64 := Tryz.sizeOf159
  v64 := Tryz.zeroValue159 }
theorem sorts33 (m : Nat) : AnyZ.SortsIn Tryz.prog sorted33_ren Fence.wide m :=
  ⟨fun blk off cap ss W hH hblk hsz => callsIn_wide.2 (AnyM.slices_Sort_string srt48 blk off cap ss W hH hblk hsz), fun p cap W => callsIn_wide.2 (AnyM.slices_Sort_string_none srt48 p cap W)⟩
theorem sk33_34 {hk : Tryz.prog.underlying 9 = some .string} {β : Type} {V : Tv β} {Γ : Gh} {row : Rowb} {g t gb : Nat} {es : List (ByteArray × β)} {w : World} (hm : MapO (strK hk) V Γ row g es) (hn : es.length ≤ lim) (hp : Pre [[(gb, .cells #[.map (some g)] t)], row] Γ w) :
    Calls Tryz.prog 33 #[.func (.func 49) #[] #[.pointer (some ⟨gb, 0, none⟩)]] w (Outc Γ [[(gb, .cells #[.map (some g)] t)], row] w fun U Δ v => ∃ A c row', v = .slice A (skeys es).length c ∧ U = [[(gb, .cells #[.map (some g)] t)], row, row'] ∧ Own strT Δ 9 row' A c (skeys es)) :=
  sorted_keys (ρ := keys34_ren) (ρ' := sorted33_ren) { keys34 with } sorted33 rfl (sorts33 _) (enters_of Tryz.func48 (by kernel_rfl) rfl) (enters_of Tryz.func49 (by kernel_rfl) rfl) rfl hk hm hn hp
end Fw
end Go.Proofs.YtmmnpinpcgidnaaGreat
