/- The shelf's contracts of library calls, at this program: which of its numbers are which of ours. No condition. -/
import Derived.Test.YtbidmceookkapaaGreatE
import Derived.Test.YtbidmceookkapaaGreatK15
import Derived.Shelf.SlIter.Nil
import Derived.Ground.GgzProg
import Derived.Ground.SlgmProg
import Derived.Shelf.SortM.Plain
import Derived.Shelf.SortM.SortNone
namespace Go.Proofs.YtbidmceookkapaaGreat
namespace Fw
open Go.Shelf Go.RowKit Go.Maps Go.Sort
def keys54_ren : Go.Shelf.Ren := ⟨fun | 7 => 54 | 10 => 81 | n => n, fun | 23 => 82 | 26 => 9 | 3 => 48 | 28 => 92 | 0 => 0 | 27 => 91 | 33 => 122 | 4 => 4 | n => n, fun | n => n⟩
theorem keys54 : Go.Proofs.SlLaysZ.n7 Tryz.prog keys54_ren := {
  mixed := by kernel_rfl
  f7 := ⟨Tryz.f54.name, by decide, Tryz.func54.trans (congrArg some (by kernel_rfl))⟩
  f10 := ⟨Tryz.f81.name, by decide, Tryz.func81.trans (congrArg some (by kernel_rfl))⟩
  t0 := Tryz.underlying0
  a0 := Tryz.isAgg0
  z0 := Tryz.sizeOf0
  v0 := Tryz.zeroValue0
  t4 := Tryz.underlying4
  a4 := Tryz.isAgg4
  z4 := Tryz.sizeOf4
  v4 := Tryz.zeroValue4
  t23 := Tryz.underlying82
  a23 := Tryz.isAgg82
  z23 := Tryz.sizeOf82
  v23 := Tryz.zeroValue82
  t26 := Tryz.underlying9
  a26 := Tryz.isAgg9
  z26 := Tryz.sizeOf9
  v26 := Tryz.zeroValue9
  t27 := Tryz.underlying91
  a27 := Tryz.isAgg91
  z27 := Tryz.sizeOf91
  v27 := Tryz.zeroValue91
  t28 := Tryz.underlying92
  a28 := Tryz.isAgg92
  z28 := Tryz.sizeOf92
  v28 := Tryz.zeroValue92
  t33 := Tryz.underlying122
  a33 := Tryz.isAgg122
  z33 := Tryz.sizeOf122
  v33 := Tryz.zeroValue122 }
def keys65_ren : Go.Shelf.Ren := ⟨fun | 7 => 65 | 10 => 91 | n => n, fun | 23 => 101 | 26 => 9 | 3 => 51 | 28 => 92 | 0 => 0 | 27 => 91 | 33 => 122 | 4 => 4 | n => n, fun | n => n⟩
theorem keys65 : Go.Proofs.SlLaysZ.n7 Tryz.prog keys65_ren := {
  mixed := by kernel_rfl
  f7 := ⟨Tryz.f65.name, by decide, Tryz.func65.trans (congrArg some (by kernel_rfl))⟩
  f10 := ⟨Tryz.f91.name, by decide, Tryz.func91.trans (congrArg some (by kernel_rfl))⟩
  t0 := Tryz.underlying0
  a0 := Tryz.isAgg0
  z0 := Tryz.sizeOf0
  v0 := Tryz.zeroValue0
  t4 := Tryz.underlying4
  a4 := Tryz.isAgg4
  z4 := Tryz.sizeOf4
  v4 := Tryz.zeroValue4
  t23 := Tryz.underlying101
  a23 := Tryz.isAgg101
  z23 := Tryz.sizeOf101
  v23 := Tryz.zeroValue101
  t26 := Tryz.underlying9
  a26 := Tryz.isAgg9
  z26 := Tryz.sizeOf9
  v26 := Tryz.zeroValue9
  t27 := Tryz.underlying91
  a27 := Tryz.isAgg91
  z27 := Tryz.sizeOf91
  v27 := Tryz.zeroValue91
  t28 := Tryz.underlying92
  a28 := Tryz.isAgg92
  z28 := Tryz.sizeOf92
  v28 := Tryz.zeroValue92
  t33 := Tryz.underlying122
  a33 := Tryz.isAgg122
  z33 := Tryz.sizeOf122
  v33 := Tryz.zeroValue122 }
def sorted53_ren : Go.Shelf.Ren := ⟨fun | 6 => 53 | 8 => 79 | 9 => 80 | 11 => 98 | 13 => 100 | 12 => 99 | 23 => 122 | 24 => 123 | 14 => 113 | 15 => 114 | 16 => 115 | 17 => 116 | 18 => 117 | 19 => 118 | 20 => 119 | 21 => 120 | 22 => 121 | 25 => 130 | 26 => 131 | 27 => 132 | 28 => 133 | 29 => 134 | 30 => 135 | 31 => 140 | n => n, fun | 26 => 9 | 28 => 92 | 24 => 89 | 0 => 0 | 3 => 3 | 37 => 151 | 48 => 132 | 50 => 67 | 4 => 4 | 40 => 160 | 39 => 159 | 45 => 165 | 5 => 5 | 9 => 9 | 51 => 173 | 55 => 177 | 57 => 182 | 58 => 183 | 33 => 122 | n => n, fun | n => n⟩
theorem sorted53 : Go.Proofs.SlLaysZ.n6 Tryz.prog sorted53_ren := {
  mixed := by kernel_rfl
  f6 := ⟨Tryz.f53.name, by decide, Tryz.func53.trans (congrArg some (by kernel_rfl))⟩
  f8 := ⟨Tryz.f79.name, by decide, Tryz.func79.trans (congrArg some (by kernel_rfl))⟩
  f11 := ⟨Tryz.f98.name, by decide, Tryz.func98.trans (congrArg some (by kernel_rfl))⟩
  t0 := Tryz.underlying0
  a0 := Tryz.isAgg0
  z0 := Tryz.sizeOf0
  v0 := Tryz.zeroValue0
  t24 := Tryz.underlying89
  a24 := Tryz.isAgg89
  z24 := Tryz.sizeOf89
  v24 := Tryz.zeroValue89
  t26 := Tryz.underlying9
  a26 := Tryz.isAgg9
  z26 := Tryz.sizeOf9
  v26 := Tryz.zeroValue9
  t28 := Tryz.underlying92
  a28 := Tryz.isAgg92
  z28 := Tryz.sizeOf92
  v28 := Tryz.zeroValue92
  i26 := by kernel_rfl }
def srt80_ren : Go.Shelf.Ren := ⟨fun | 6 => 80 | 8 => 100 | 9 => 99 | 19 => 122 | 20 => 123 | 21 => 113 | 22 => 114 | 23 => 115 | 24 => 116 | 25 => 117 | 26 => 118 | 27 => 119 | 28 => 120 | 29 => 121 | 36 => 130 | 31 => 131 | 32 => 132 | 37 => 133 | 38 => 134 | 39 => 135 | 41 => 140 | n => n, fun | 27 => 89 | 29 => 9 | 3 => 3 | 32 => 151 | 26 => 89 | 0 => 0 | 44 => 132 | 46 => 67 | 4 => 4 | 36 => 160 | 35 => 159 | 41 => 165 | 5 => 5 | 9 => 9 | 53 => 173 | 57 => 177 | 63 => 182 | 64 => 183 | n => n, fun | n => n⟩
theorem srt80 : Go.Proofs.SlLaysM.n6 Tryz.prog srt80_ren := {
  mixed := by kernel_rfl
  f6 := ⟨Tryz.f80.name, by decide, Tryz.func80.trans (congrArg some (by kernel_rfl))⟩
  f8 := Tryz.func100.trans (congrArg some (by kernel_rfl))
  f9 := ⟨Tryz.f99.name, by decide, Tryz.func99.trans (congrArg some (by kernel_rfl))⟩
  f19 := Tryz.func122.trans (congrArg some (by kernel_rfl))
  f20 := Tryz.func123.trans (congrArg some (by kernel_rfl))
  f21 := ⟨Tryz.f113.name, by decide, Tryz.func113.trans (congrArg some (by kernel_rfl))⟩
  f22 := ⟨Tryz.f114.name, by decide, Tryz.func114.trans (congrArg some (by kernel_rfl))⟩
  f23 := ⟨Tryz.f115.name, by decide, Tryz.func115.trans (congrArg some (by kernel_rfl))⟩
  f24 := ⟨Tryz.f116.name, by decide, Tryz.func116.trans (congrArg some (by kernel_rfl))⟩
  f25 := ⟨Tryz.f117.name, by decide, Tryz.func117.trans (congrArg some (by kernel_rfl))⟩
  f26 := ⟨Tryz.f118.name, by decide, Tryz.func118.trans (congrArg some (by kernel_rfl))⟩
  f27 := ⟨Tryz.f119.name, by decide, Tryz.func119.trans (congrArg some (by kernel_rfl))⟩
  f28 := ⟨Tryz.f120.name, by decide, Tryz.func120.trans (congrArg some (by kernel_rfl))⟩
  f29 := ⟨Tryz.f121.name, by decide, Tryz.func121.trans (congrArg some (by kernel_rfl))⟩
  f31 := Tryz.func131.trans (congrArg some (by kernel_rfl))
  f32 := Tryz.func132.trans (congrArg some (by kernel_rfl))
  f36 := ⟨Tryz.f130.name, by decide, Tryz.func130.trans (congrArg some (by kernel_rfl))⟩
  f37 := ⟨Tryz.f133.name, by decide, Tryz.func133.trans (congrArg some (by kernel_rfl))⟩
  f38 := ⟨Tryz.f134.name, by decide, Tryz.func134.trans (congrArg some (by kernel_rfl))⟩
  f39 := ⟨Tryz.f135.name, by decide, Tryz.func135.trans (congrArg some (by kernel_rfl))⟩
  f41 := ⟨Tryz.f140.name, by decide, Tryz.func140.trans (congrArg some (by kernel_rfl))⟩
  t0 := Tryz.underlying0
  a0 := Tryz.isAgg0
  z0 := Tryz.sizeOf0
  v0 := Tryz.zeroValue0
  t3 := Tryz.underlying3
  a3 := Tryz.isAgg3
  z3 := Tryz.sizeOf3
  v3 := Tryz.zeroValue3
  t4 := Tryz.underlying4
  a4 := Tryz.isAgg4
  z4 := Tryz.sizeOf4
  v4 := Tryz.zeroValue4
  t5 := Tryz.underlying5
  a5 := Tryz.isAgg5
  z5 := Tryz.sizeOf5
  v5 := Tryz.zeroValue5
  t9 := Tryz.underlying9
  a9 := Tryz.isAgg9
  z9 := Tryz.sizeOf9
  v9 := Tryz.zeroValue9
  t26 := Tryz.underlying89
  a26 := Tryz.isAgg89
  z26 := Tryz.sizeOf89
  v26 := Tryz.zeroValue89
  t27 := Tryz.underlying89
  a27 := Tryz.isAgg89
  z27 := Tryz.sizeOf89
  v27 := Tryz.zeroValue89
  t29 := Tryz.underlying9
  a29 := Tryz.isAgg9
  z29 := Tryz.sizeOf9
  v29 := Tryz.zeroValue9
  t32 := Tryz.underlying151
  a32 := Tryz.isAgg151
  z32 := Tryz.sizeOf151
  v32 := Tryz.zeroValue151
  t35 := Tryz.underlying159
  a35 := Tryz.isAgg159
  z35 := Tryz.sizeOf159
  v35 := Tryz.zeroValue159
  t36 := Tryz.underlying160
  a36 := Tryz.isAgg160
  z36 := Tryz.sizeOf160
  v36 := Tryz.zeroValue160
  t41 := Tryz.underlying165
  a41 := Tryz.isAgg165
  z41 := Tryz.sizeOf165
  v41 := Tryz.zeroValue165
  t44 := Tryz.underlying132
  a44 := Tryz.isAgg132
  z44 := Tryz.sizeOf132
  v44 := Tryz.zeroValue132
  t46 := Tryz.underlying67
  a46 := Tryz.isAgg67
  z46 := Tryz.sizeOf67
  v46 := Tryz.zeroValue67
  t53 := Tryz.underlying173
  a53 := Tryz.isAgg173
  z53 := Tryz.sizeOf173
  v53 := Tryz.zeroValue173
  t57 := Tryz.underlying177
  a57 := Tryz.isAgg177
  z57 := Tryz.sizeOf177
  v57 := Tryz.zeroValue177
  t63 := Tryz.underlying182
  a63 := Tryz.isAgg182
  z63 := Tryz.sizeOf182
  v63 := Tryz.zeroValue182
  t64 := Tryz.underlying183
  a64 := Tryz.isAgg183
  z64 := Tryz.sizeOf183
  v64 := Tryz.zeroValue183 }
theorem sorts53 (m : Nat) : AnyZ.SortsIn Tryz.prog sorted53_ren Fence.wide m :=
  ⟨fun blk off cap ss W hH hblk hsz => callsIn_wide.2 (AnyM.slices_Sort_string srt80 blk off cap ss W hH hblk hsz), fun p cap W => callsIn_wide.2 (AnyM.slices_Sort_string_none srt80 p cap W)⟩
theorem sk53_54 {hk : Tryz.prog.underlying 9 = some .string} {β : Type} {V : Tv β} {Γ : Gh} {row : Rowb} {g t gb : Nat} {es : List (ByteArray × β)} {w : World} (hm : MapO (strK hk) V Γ row g es) (hn : es.length ≤ lim) (hp : Pre [[(gb, .cells #[.map (some g)] t)], row] Γ w) :
    Calls Tryz.prog 53 #[.func (.func 81) #[] #[.pointer (some ⟨gb, 0, none⟩)]] w (Outc Γ [[(gb, .cells #[.map (some g)] t)], row] w fun U Δ v => ∃ A c row', v = .slice A (skeys es).length c ∧ U = [[(gb, .cells #[.map (some g)] t)], row, row'] ∧ Own strT Δ 9 row' A c (skeys es)) :=
  sorted_keys (ρ := keys54_ren) (ρ' := sorted53_ren) { keys54 with } sorted53 rfl (sorts53 _) (enters_of Tryz.func80 (by kernel_rfl) rfl) (enters_of Tryz.func81 (by kernel_rfl) rfl) rfl hk hm hn hp
theorem sk53_65 {hk : Tryz.prog.underlying 9 = some .string} {β : Type} {V : Tv β} {Γ : Gh} {row : Rowb} {g t gb : Nat} {es : List (ByteArray × β)} {w : World} (hm : MapO (strK hk) V Γ row g es) (hn : es.length ≤ lim) (hp : Pre [[(gb, .cells #[.map (some g)] t)], row] Γ w) :
    Calls Tryz.prog 53 #[.func (.func 91) #[] #[.pointer (some ⟨gb, 0, none⟩)]] w (Outc Γ [[(gb, .cells #[.map (some g)] t)], row] w fun U Δ v => ∃ A c row', v = .slice A (skeys es).length c ∧ U = [[(gb, .cells #[.map (some g)] t)], row, row'] ∧ Own strT Δ 9 row' A c (skeys es)) :=
  sorted_keys (ρ := keys65_ren) (ρ' := sorted53_ren) { keys65 with } sorted53 rfl (sorts53 _) (enters_of Tryz.func80 (by kernel_rfl) rfl) (enters_of Tryz.func91 (by kernel_rfl) rfl) rfl hk hm hn hp
end Fw
end Go.Proofs.YtbidmceookkapaaGreat
