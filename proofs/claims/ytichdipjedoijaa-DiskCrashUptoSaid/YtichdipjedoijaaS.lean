/- The shelf's contracts of library calls, at this program: which of its numbers are which of ours. No condition. -/
import Derived.Test.YtichdipjedoijaaE
import Derived.Test.YtichdipjedoijaaK15
import Derived.Shelf.SlMaps.Clone
import Derived.Ground.SlmcProg
import Derived.Shelf.SlIter.Nil
import Derived.Ground.GgzProg
import Derived.Ground.SlgmProg
import Derived.Shelf.SortM.Plain
import Derived.Shelf.SortM.SortNone
namespace Go.Proofs.Ytichdipjedoijaa
namespace Fw
open Go.Shelf Go.RowKit Go.Maps Go.Sort
def clone30_ren : Go.Shelf.Ren := ⟨fun | 5 => 30 | 7 => 48 | n => n, fun | 23 => 58 | 25 => 9 | 3 => 22 | 4 => 4 | 20 => 20 | n => n, fun | n => n⟩
theorem clone30 : Go.Proofs.SlLaysW.n5 Try.prog clone30_ren := {
  mixed := by kernel_rfl
  f5 := ⟨Try.f30.name, by decide, Try.func30.trans (congrArg some (by kernel_rfl))⟩
  f7 := Try.func48.trans (congrArg some (by kernel_rfl))
  t4 := Try.underlying4
  a4 := Try.isAgg4
  z4 := Try.sizeOf4
  v4 := Try.zeroValue4
  t20 := Try.underlying20
  a20 := Try.isAgg20
  z20 := Try.sizeOf20
  v20 := Try.zeroValue20
  t23 := Try.underlying58
  a23 := Try.isAgg58
  z23 := Try.sizeOf58
  v23 := Try.zeroValue58 }
def keys34_ren : Go.Shelf.Ren := ⟨fun | 7 => 34 | 10 => 51 | n => n, fun | 23 => 58 | 26 => 9 | 3 => 22 | 28 => 72 | 0 => 0 | 27 => 71 | 33 => 86 | 4 => 4 | n => n, fun | n => n⟩
theorem keys34 : Go.Proofs.SlLaysZ.n7 Try.prog keys34_ren := {
  mixed := by kernel_rfl
  f7 := ⟨Try.f34.name, by decide, Try.func34.trans (congrArg some (by kernel_rfl))⟩
  f10 := ⟨Try.f51.name, by decide, Try.func51.trans (congrArg some (by kernel_rfl))⟩
  t0 := Try.underlying0
  a0 := Try.isAgg0
  z0 := Try.sizeOf0
  v0 := Try.zeroValue0
  t4 := Try.underlying4
  a4 := Try.isAgg4
  z4 := Try.sizeOf4
  v4 := Try.zeroValue4
  t23 := Try.underlying58
  a23 := Try.isAgg58
  z23 := Try.sizeOf58
  v23 := Try.zeroValue58
  t26 := Try.underlying9
  a26 := Try.isAgg9
  z26 := Try.sizeOf9
  v26 := Try.zeroValue9
  t27 := Try.underlying71
  a27 := Try.isAgg71
  z27 := Try.sizeOf71
  v27 := Try.zeroValue71
  t28 := Try.underlying72
  a28 := Try.isAgg72
  z28 := Try.sizeOf72
  v28 := Try.zeroValue72
  t33 := Try.underlying86
  a33 := Try.isAgg86
  z33 := Try.sizeOf86
  v33 := Try.zeroValue86 }
def sorted33_ren : Go.Shelf.Ren := ⟨fun | 6 => 33 | 8 => 49 | 9 => 50 | 11 => 57 | 13 => 59 | 12 => 58 | 23 => 71 | 24 => 72 | 14 => 62 | 15 => 63 | 16 => 64 | 17 => 65 | 18 => 66 | 19 => 67 | 20 => 68 | 21 => 69 | 22 => 70 | 25 => 73 | 26 => 74 | 27 => 75 | 28 => 76 | 29 => 77 | 30 => 78 | 31 => 79 | n => n, fun | 26 => 9 | 28 => 72 | 24 => 33 | 0 => 0 | 3 => 3 | 37 => 94 | 48 => 106 | 50 => 108 | 4 => 4 | 40 => 98 | 39 => 97 | 45 => 103 | 5 => 5 | 9 => 9 | 51 => 109 | 55 => 113 | 57 => 115 | 58 => 116 | 33 => 86 | n => n, fun | n => n⟩
theorem sorted33 : Go.Proofs.SlLaysZ.n6 Try.prog sorted33_ren := {
  mixed := by kernel_rfl
  f6 := ⟨Try.f33.name, by decide, Try.func33.trans (congrArg some (by kernel_rfl))⟩
  f8 := ⟨Try.f49.name, by decide, Try.func49.trans (congrArg some (by kernel_rfl))⟩
  f11 := ⟨Try.f57.name, by decide, Try.func57.trans (congrArg some (by kernel_rfl))⟩
  t0 := Try.underlying0
  a0 := Try.isAgg0
  z0 := Try.sizeOf0
  v0 := Try.zeroValue0
  t24 := Try.underlying33
  a24 := Try.isAgg33
  z24 := Try.sizeOf33
  v24 := Try.zeroValue33
  t26 := Try.underlying9
  a26 := Try.isAgg9
  z26 := Try.sizeOf9
  v26 := Try.zeroValue9
  t28 := Try.underlying72
  a28 := Try.isAgg72
  z28 := Try.sizeOf72
  v28 := Try.zeroValue72
  i26 := by kernel_rfl }
def srt50_ren : Go.Shelf.Ren := ⟨fun | 6 => 50 | 8 => 59 | 9 => 58 | 19 => 71 | 20 => 72 | 21 => 62 | 22 => 63 | 23 => 64 | 24 => 65 | 25 => 66 | 26 => 67 | 27 => 68 | 28 => 69 | 29 => 70 | 36 => 73 | 31 => 74 | 32 => 75 | 37 => 76 | 38 => 77 | 39 => 78 | 41 => 79 | n => n, fun | 27 => 33 | 29 => 9 | 3 => 3 | 32 => 94 | 26 => 33 | 0 => 0 | 44 => 106 | 46 => 108 | 4 => 4 | 36 => 98 | 35 => 97 | 41 => 103 | 5 => 5 | 9 => 9 | 53 => 109 | 57 => 113 | 63 => 115 | 64 => 116 | n => n, fun | n => n⟩
theorem srt50 : Go.Proofs.SlLaysM.n6 Try.prog srt50_ren := {
  mixed := by kernel_rfl
  f6 := ⟨Try.f50.name, by decide, Try.func50.trans (congrArg some (by kernel_rfl))⟩
  f8 := Try.func59.trans (congrArg some (by kernel_rfl))
  f9 := ⟨Try.f58.name, by decide, Try.func58.trans (congrArg some (by kernel_rfl))⟩
  f19 := Try.func71.trans (congrArg some (by kernel_rfl))
  f20 := Try.func72.trans (congrArg some (by kernel_rfl))
  f21 := ⟨Try.f62.name, by decide, Try.func62.trans (congrArg some (by kernel_rfl))⟩
  f22 := ⟨Try.f63.name, by decide, Try.func63.trans (congrArg some (by kernel_rfl))⟩
  f23 := ⟨Try.f64.name, by decide, Try.func64.trans (congrArg some (by kernel_rfl))⟩
  f24 := ⟨Try.f65.name, by decide, Try.func65.trans (congrArg some (by kernel_rfl))⟩
  f25 := ⟨Try.f66.name, by decide, Try.func66.trans (congrArg some (by kernel_rfl))⟩
  f26 := ⟨Try.f67.name, by decide, Try.func67.trans (congrArg some (by kernel_rfl))⟩
  f27 := ⟨Try.f68.name, by decide, Try.func68.trans (congrArg some (by kernel_rfl))⟩
  f28 := ⟨Try.f69.name, by decide, Try.func69.trans (congrArg some (by kernel_rfl))⟩
  f29 := ⟨Try.f70.name, by decide, Try.func70.trans (congrArg some (by kernel_rfl))⟩
  f31 := Try.func74.trans (congrArg some (by kernel_rfl))
  f32 := Try.func75.trans (congrArg some (by kernel_rfl))
  f36 := ⟨Try.f73.name, by decide, Try.func73.trans (congrArg some (by kernel_rfl))⟩
  f37 := ⟨Try.f76.name, by decide, Try.func76.trans (congrArg some (by kernel_rfl))⟩
  f38 := ⟨Try.f77.name, by decide, Try.func77.trans (congrArg some (by kernel_rfl))⟩
  f39 := ⟨Try.f78.name, by decide, Try.func78.trans (congrArg some (by kernel_rfl))⟩
  f41 := ⟨Try.f79.name, by decide, Try.func79.trans (congrArg some (by kernel_rfl))⟩
  t0 := Try.underlying0
  a0 := Try.isAgg0
  z0 := Try.sizeOf0
  v0 := Try.zeroValue0
  t3 := Try.underlying3
  a3 := Try.isAgg3
  z3 := Try.sizeOf3
  v3 := Try.zeroValue3
  t4 := Try.underlying4
  a4 := Try.isAgg4
  z4 := Try.sizeOf4
  v4 := Try.zeroValue4
  t5 := Try.underlying5
  a5 := Try.isAgg5
  z5 := Try.sizeOf5
  v5 := Try.zeroValue5
  t9 := Try.underlying9
  a9 := Try.isAgg9
  z9 := Try.sizeOf9
  v9 := Try.zeroValue9
  t26 := Try.underlying33
  a26 := Try.isAgg33
  z26 := Try.sizeOf33
  v26 := Try.zeroValue33
  t27 := Try.underlying33
  a27 := Try.isAgg33
  z27 := Try.sizeOf33
  v27 := Try.zeroValue33
  t29 := Try.underlying9
  a29 := Try.isAgg9
  z29 := Try.sizeOf9
  v29 := Try.zeroValue9
  t32 := Try.underlying94
  a32 := Try.isAgg94
  z32 := Try.sizeOf94
  v32 := Try.zeroValue94
  t35 := Try.underlying97
  a35 := Try.isAgg97
  z35 := Try.sizeOf97
  v35 := Try.zeroValue97
  t36 := Try.underlying98
  a36 := Try.isAgg98
  z36 := Try.sizeOf98
  v36 := Try.zeroValue98
  t41 := Try.underlying103
  a41 := Try.isAgg103
  z41 := Try.sizeOf103
  v41 := Try.zeroValue103
  t44 := Try.underlying106
  a44 := Try.isAgg106
  z44 := Try.sizeOf106
  v44 := Try.zeroValue106
  t46 := Try.underlying108
  a46 := Try.isAgg108
  z46 := Try.sizeOf108
  v46 := Try.zeroValue108
  t53 := Try.underlying109
  a53 := Try.isAgg109
  z53 := Try.sizeOf109
  v53 := Try.zeroValue109
  t57 := Try.underlying113
  a57 := Try.isAgg113
  z57 := Try.sizeOf113
  v57 := Try.zeroValue113
  t63 := Try.underlying115
  a63 := Try.isAgg115
  z63 := Try.sizeOf115
  v63 := Try.zeroValue115
  t64 := Try.underlying116
  a64 := Try.isAgg116
  z64 := Try.sizeOf116
  v64 := Try.zeroValue116 }
theorem sorts33 (m : Nat) : AnyZ.SortsIn Try.prog sorted33_ren Fence.wide m :=
  ⟨fun blk off cap ss W hH hblk hsz => callsIn_wide.2 (AnyM.slices_Sort_string srt50 blk off cap ss W hH hblk hsz), fun p cap W => callsIn_wide.2 (AnyM.slices_Sort_string_none srt50 p cap W)⟩
theorem sk33_34 {hk : Try.prog.underlying 9 = some .string} {β : Type} {V : Tv β} {Γ : Gh} {row : Rowb} {g t gb : Nat} {es : List (ByteArray × β)} {w : World} (hm : MapO (strK hk) V Γ row g es) (hn : es.length ≤ lim) (hp : Pre [[(gb, .cells #[.map (some g)] t)], row] Γ w) :
    Calls Try.prog 33 #[.func (.func 51) #[] #[.pointer (some ⟨gb, 0, none⟩)]] w (Outc Γ [[(gb, .cells #[.map (some g)] t)], row] w fun U Δ v => ∃ A c row', v = .slice A (skeys es).length c ∧ U = [[(gb, .cells #[.map (some g)] t)], row, row'] ∧ Own strT Δ 9 row' A c (skeys es)) :=
  sorted_keys (ρ := keys34_ren) (ρ' := sorted33_ren) { keys34 with } sorted33 rfl (sorts33 _) (enters_of Try.func50 (by kernel_rfl) rfl) (enters_of Try.func51 (by kernel_rfl) rfl) rfl hk hm hn hp
end Fw
end Go.Proofs.Ytichdipjedoijaa
