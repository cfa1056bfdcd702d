/- The shelf's contracts of library calls, at this program: which of its numbers are which of ours. No condition. -/
import Derived.Test.YtmmnpinpcgidnaaE
import Derived.Test.YtmmnpinpcgidnaaK15
import Derived.Shelf.SlIter.Nil
import Derived.Ground.GgzProg
import Derived.Ground.SlgmProg
import Derived.Shelf.SortM.Plain
import Derived.Shelf.SortM.SortNone
namespace Go.Proofs.Ytmmnpinpcgidnaa
namespace Fw
open Go.Shelf Go.RowKit Go.Maps Go.Sort
def keys35_ren : Go.Shelf.Ren := ⟨fun | 7 => 35 | 10 => 49 | n => n, fun | 23 => 61 | 26 => 9 | 3 => 37 | 28 => 93 | 0 => 0 | 27 => 92 | 33 => 106 | 4 => 4 | n => n, fun | n => n⟩
theorem keys35 : Go.Proofs.SlLaysZ.n7 Try.prog keys35_ren := {
  mixed := by kernel_rfl
  f7 := ⟨Try.f35.name, by decide, Try.func35.trans (congrArg some (by kernel_rfl))⟩
  f10 := ⟨Try.f49.name, by decide, Try.func49.trans (congrArg some (by kernel_rfl))⟩
  t0 := Try.underlying0
  a0 := Try.isAgg0
  z0 := Try.sizeOf0
  v0 := Try.zeroValue0
  t4 := Try.underlying4
  a4 := Try.isAgg4
  z4 := Try.sizeOf4
  v4 := Try.zeroValue4
  t23 := Try.underlying61
  a23 := Try.isAgg61
  z23 := Try.sizeOf61
  v23 := Try.zeroValue61
  t26 := Try.underlying9
  a26 := Try.isAgg9
  z26 := Try.sizeOf9
  v26 := Try.zeroValue9
  t27 := Try.underlying92
  a27 := Try.isAgg92
  z27 := Try.sizeOf92
  v27 := Try.zeroValue92
  t28 := Try.underlying93
  a28 := Try.isAgg93
  z28 := Try.sizeOf93
  v28 := Try.zeroValue93
  t33 := Try.underlying106
  a33 := Try.isAgg106
  z33 := Try.sizeOf106
  v33 := Try.zeroValue106 }
def sorted34_ren : Go.Shelf.Ren := ⟨fun | 6 => 34 | 8 => 47 | 9 => 48 | 11 => 64 | 13 => 66 | 12 => 65 | 23 => 83 | 24 => 84 | 14 => 74 | 15 => 75 | 16 => 76 | 17 => 77 | 18 => 78 | 19 => 79 | 20 => 80 | 21 => 81 | 22 => 82 | 25 => 96 | 26 => 97 | 27 => 98 | 28 => 99 | 29 => 100 | 30 => 101 | 31 => 109 | n => n, fun | 26 => 9 | 28 => 93 | 24 => 90 | 0 => 0 | 3 => 3 | 37 => 57 | 48 => 75 | 50 => 40 | 4 => 4 | 40 => 131 | 39 => 130 | 45 => 136 | 5 => 5 | 9 => 9 | 51 => 147 | 55 => 151 | 57 => 157 | 58 => 158 | 33 => 106 | n => n, fun | n => n⟩
theorem sorted34 : Go.Proofs.SlLaysZ.n6 Try.prog sorted34_ren := {
  mixed := by kernel_rfl
  f6 := ⟨Try.f34.name, by decide, Try.func34.trans (congrArg some (by kernel_rfl))⟩
  f8 := ⟨Try.f47.name, by decide, Try.func47.trans (congrArg some (by kernel_rfl))⟩
  f11 := ⟨Try.f64.name, by decide, Try.func64.trans (congrArg some (by kernel_rfl))⟩
  t0 := Try.underlying0
  a0 := Try.isAgg0
  z0 := Try.sizeOf0
  v0 := Try.zeroValue0
  t24 := Try.underlying90
  a24 := Try.isAgg90
  z24 := Try.sizeOf90
  v24 := Try.zeroValue90
  t26 := Try.underlying9
  a26 := Try.isAgg9
  z26 := Try.sizeOf9
  v26 := Try.zeroValue9
  t28 := Try.underlying93
  a28 := Try.isAgg93
  z28 := Try.sizeOf93
  v28 := Try.zeroValue93
  i26 := by kernel_rfl }
def srt48_ren : Go.Shelf.Ren := ⟨fun | 6 => 48 | 8 => 66 | 9 => 65 | 19 => 83 | 20 => 84 | 21 => 74 | 22 => 75 | 23 => 76 | 24 => 77 | 25 => 78 | 26 => 79 | 27 => 80 | 28 => 81 | 29 => 82 | 36 => 96 | 31 => 97 | 32 => 98 | 37 => 99 | 38 => 100 | 39 => 101 | 41 => 109 | n => n, fun | 27 => 90 | 29 => 9 | 3 => 3 | 32 => 57 | 26 => 90 | 0 => 0 | 44 => 75 | 46 => 40 | 4 => 4 | 36 => 131 | 35 => 130 | 41 => 136 | 5 => 5 | 9 => 9 | 53 => 147 | 57 => 151 | 63 => 157 | 64 => 158 | n => n, fun | n => n⟩
theorem srt48 : Go.Proofs.SlLaysM.n6 Try.prog srt48_ren := {
  mixed := by kernel_rfl
  f6 := ⟨Try.f48.name, by decide, Try.func48.trans (congrArg some (by kernel_rfl))⟩
  f8 := Try.func66.trans (congrArg some (by kernel_rfl))
  f9 := ⟨Try.f65.name, by decide, Try.func65.trans (congrArg some (by kernel_rfl))⟩
  f19 := Try.func83.trans (congrArg some (by kernel_rfl))
  f20 := Try.func84.trans (congrArg some (by kernel_rfl))
  f21 := ⟨Try.f74.name, by decide, Try.func74.trans (congrArg some (by kernel_rfl))⟩
  f22 := ⟨Try.f75.name, by decide, Try.func75.trans (congrArg some (by kernel_rfl))⟩
  f23 := ⟨Try.f76.name, by decide, Try.func76.trans (congrArg some (by kernel_rfl))⟩
  f24 := ⟨Try.f77.name, by decide, Try.func77.trans (congrArg some (by kernel_rfl))⟩
  f25 := ⟨Try.f78.name, by decide, Try.func78.trans (congrArg some (by kernel_rfl))⟩
  f26 := ⟨Try.f79.name, by decide, Try.func79.trans (congrArg some (by kernel_rfl))⟩
  f27 := ⟨Try.f80.name, by decide, Try.func80.trans (congrArg some (by kernel_rfl))⟩
  f28 := ⟨Try.f81.name, by decide, Try.func81.trans (congrArg some (by kernel_rfl))⟩
  f29 := ⟨Try.f82.name, by decide, Try.func82.trans (congrArg some (by kernel_rfl))⟩
  f31 := Try.func97.trans (congrArg some (by kernel_rfl))
  f32 := Try.func98.trans (congrArg some (by kernel_rfl))
  f36 := ⟨Try.f96.name, by decide, Try.func96.trans (congrArg some (by kernel_rfl))⟩
  f37 := ⟨Try.f99.name, by decide, Try.func99.trans (congrArg some (by kernel_rfl))⟩
  f38 := ⟨Try.f100.name, by decide, Try.func100.trans (congrArg some (by kernel_rfl))⟩
  f39 := ⟨Try.f101.name, by decide, Try.func101.trans (congrArg some (by kernel_rfl))⟩
  f41 := ⟨Try.f109.name, by decide, Try.func109.trans (congrArg some (by kernel_rfl))⟩
  t0 := Try.underlying0
  a0 := Try.isAgg0
  z0 := Try.sizeOf0
  v0 := Try.zeroValue0
  t3 := Try.underlying3
  a3 := Try.isAgg3
  z3 := Try.sizeOf3
  v3 := Try.zeroValue3
  t4 := Try.underlying4
  a4 := Try.isAgg4
  z4 := Try.sizeOf4
  v4 := Try.zeroValue4
  t5 := Try.underlying5
  a5 := Try.isAgg5
  z5 := Try.sizeOf5
  v5 := Try.zeroValue5
  t9 := Try.underlying9
  a9 := Try.isAgg9
  z9 := Try.sizeOf9
  v9 := Try.zeroValue9
  t26 := Try.underlying90
  a26 := Try.isAgg90
  z26 := Try.sizeOf90
  v26 := Try.zeroValue90
  t27 := Try.underlying90
  a27 := Try.isAgg90
  z27 := Try.sizeOf90
  v27 := Try.zeroValue90
  t29 := Try.underlying9
  a29 := Try.isAgg9
  z29 := Try.sizeOf9
  v29 := Try.zeroValue9
  t32 := Try.underlying57
  a32 := Try.isAgg57
  z32 := Try.sizeOf57
  v32 := Try.zeroValue57
  t35 := Try.underlying130
  a35 := Try.isAgg130
  z35 := Try.sizeOf130
  v35 := Try.zeroValue130
  t36 := Try.underlying131
  a36 := Try.isAgg131
  z36 := Try.sizeOf131
  v36 := Try.zeroValue131
  t41 := Try.underlying136
  a41 := Try.isAgg136
  z41 := Try.sizeOf136
  v41 := Try.zeroValue136
  t44 := Try.underlying75
  a44 := Try.isAgg75
  z44 := Try.sizeOf75
  v44 := Try.zeroValue75
  t46 := Try.underlying40
  a46 := Try.isAgg40
  z46 := Try.sizeOf40
  v46 := Try.zeroValue40
  t53 := Try.underlying147
  a53 := Try.isAgg147
  z53 := Try.sizeOf147
  v53 := Try.zeroValue147
  t57 := Try.underlying151
  a57 := Try.isAgg151
  z57 := Try.sizeOf151
  v57 := Try.zeroValue151
  t63 := Try.underlying157
  a63 := Try.isAgg157
  z63 := Try.sizeOf157
  v63 := Try.zeroValue157
  t64 := Try.underlying158
  a64 := Try.isAgg158
  z64 := Try.sizeOf158
  v64 := Try.zeroValue158 }
theorem sorts34 (m : Nat) : AnyZ.SortsIn Try.prog sorted34_ren Fence.wide m :=
  ⟨fun blk off cap ss W hH hblk hsz => callsIn_wide.2 (AnyM.slices_Sort_string srt48 blk off cap ss W hH hblk hsz), fun p cap W => callsIn_wide.2 (AnyM.slices_Sort_string_none srt48 p cap W)⟩
theorem sk34_35 {hk : Try.prog.underlying 9 = some .string} {β : Type} {V : Tv β} {Γ : Gh} {row : Rowb} {g t gb : Nat} {es : List (ByteArray × β)} {w : World} (hm : MapO (strK hk) V Γ row g es) (hn : es.length ≤ lim) (hp : Pre [[(gb, .cells #[.map (some g)] t)], row] Γ w) :
    Calls Try.prog 34 #[.func (.func 49) #[] #[.pointer (some ⟨gb, 0, none⟩)]] w (Outc Γ [[(gb, .cells #[.map (some g)] t)], row] w fun U Δ v => ∃ A c row', v = .slice A (skeys es).length c ∧ U = [[(gb, .cells #[.map (some g)] t)], row, row'] ∧ Own strT Δ 9 row' A c (skeys es)) :=
  sorted_keys (ρ := keys35_ren) (ρ' := sorted34_ren) { keys35 with } sorted34 rfl (sorts34 _) (enters_of Try.func48 (by kernel_rfl) rfl) (enters_of Try.func49 (by kernel_rfl) rfl) rfl hk hm hn hp
end Fw
end Go.Proofs.Ytmmnpinpcgidnaa
