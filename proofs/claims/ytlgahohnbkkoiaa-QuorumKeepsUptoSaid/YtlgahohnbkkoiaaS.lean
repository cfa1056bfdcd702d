/- The shelf's contracts of library calls, at this program: which of its numbers are which of ours. No condition. -/
import Derived.Test.YtlgahohnbkkoiaaE
import Derived.Test.YtlgahohnbkkoiaaK15
import Derived.Shelf.SlIter.Nil
import Derived.Ground.GgzProg
import Derived.Ground.SlgmProg
import Derived.Shelf.SortM.Plain
import Derived.Shelf.SortM.SortNone
namespace Go.Proofs.Ytlgahohnbkkoiaa
namespace Fw
open Go.Shelf Go.RowKit Go.Maps Go.Sort
def keys83_ren : Go.Shelf.Ren := ⟨fun | 7 => 83 | 10 => 93 | n => n, fun | 23 => 135 | 26 => 9 | 3 => 40 | 28 => 140 | 0 => 0 | 27 => 139 | 33 => 145 | 4 => 4 | n => n, fun | n => n⟩
theorem keys83 : Go.Proofs.SlLaysZ.n7 Try.prog keys83_ren := {
  mixed := by kernel_rfl
  f7 := ⟨Try.f83.name, by decide, Try.func83.trans (congrArg some (by kernel_rfl))⟩
  f10 := ⟨Try.f93.name, by decide, Try.func93.trans (congrArg some (by kernel_rfl))⟩
  t0 := Try.underlying0
  a0 := Try.isAgg0
  z0 := Try.sizeOf0
  v0 := Try.zeroValue0
  t4 := Try.underlying4
  a4 := Try.isAgg4
  z4 := Try.sizeOf4
  v4 := Try.zeroValue4
  t23 := Try.underlying135
  a23 := Try.isAgg135
  z23 := Try.sizeOf135
  v23 := Try.zeroValue135
  t26 := Try.underlying9
  a26 := Try.isAgg9
  z26 := Try.sizeOf9
  v26 := Try.zeroValue9
  t27 := Try.underlying139
  a27 := Try.isAgg139
  z27 := Try.sizeOf139
  v27 := Try.zeroValue139
  t28 := Try.underlying140
  a28 := Try.isAgg140
  z28 := Try.sizeOf140
  v28 := Try.zeroValue140
  t33 := Try.underlying145
  a33 := Try.isAgg145
  z33 := Try.sizeOf145
  v33 := Try.zeroValue145 }
def sorted82_ren : Go.Shelf.Ren := ⟨fun | 6 => 82 | 8 => 91 | 9 => 92 | 11 => 97 | 13 => 99 | 12 => 98 | 23 => 109 | 24 => 110 | 14 => 100 | 15 => 101 | 16 => 102 | 17 => 103 | 18 => 104 | 19 => 105 | 20 => 106 | 21 => 107 | 22 => 108 | 25 => 111 | 26 => 112 | 27 => 113 | 28 => 114 | 29 => 115 | 30 => 116 | 31 => 117 | n => n, fun | 26 => 9 | 28 => 140 | 24 => 137 | 0 => 0 | 3 => 3 | 37 => 150 | 48 => 161 | 50 => 163 | 4 => 4 | 40 => 153 | 39 => 152 | 45 => 158 | 5 => 5 | 9 => 9 | 51 => 164 | 55 => 168 | 57 => 170 | 58 => 171 | 33 => 145 | n => n, fun | n => n⟩
theorem sorted82 : Go.Proofs.SlLaysZ.n6 Try.prog sorted82_ren := {
  mixed := by kernel_rfl
  f6 := ⟨Try.f82.name, by decide, Try.func82.trans (congrArg some (by kernel_rfl))⟩
  f8 := ⟨Try.f91.name, by decide, Try.func91.trans (congrArg some (by kernel_rfl))⟩
  f11 := ⟨Try.f97.name, by decide, Try.func97.trans (congrArg some (by kernel_rfl))⟩
  t0 := Try.underlying0
  a0 := Try.isAgg0
  z0 := Try.sizeOf0
  v0 := Try.zeroValue0
  t24 := Try.underlying137
  a24 := Try.isAgg137
  z24 := Try.sizeOf137
  v24 := Try.zeroValue137
  t26 := Try.underlying9
  a26 := Try.isAgg9
  z26 := Try.sizeOf9
  v26 := Try.zeroValue9
  t28 := Try.underlying140
  a28 := Try.isAgg140
  z28 := Try.sizeOf140
  v28 := Try.zeroValue140
  i26 := by kernel_rfl }
def srt92_ren : Go.Shelf.Ren := ⟨fun | 6 => 92 | 8 => 99 | 9 => 98 | 19 => 109 | 20 => 110 | 21 => 100 | 22 => 101 | 23 => 102 | 24 => 103 | 25 => 104 | 26 => 105 | 27 => 106 | 28 => 107 | 29 => 108 | 36 => 111 | 31 => 112 | 32 => 113 | 37 => 114 | 38 => 115 | 39 => 116 | 41 => 117 | n => n, fun | 27 => 137 | 29 => 9 | 3 => 3 | 32 => 150 | 26 => 137 | 0 => 0 | 44 => 161 | 46 => 163 | 4 => 4 | 36 => 153 | 35 => 152 | 41 => 158 | 5 => 5 | 9 => 9 | 53 => 164 | 57 => 168 | 63 => 170 | 64 => 171 | n => n, fun | n => n⟩
theorem srt92 : Go.Proofs.SlLaysM.n6 Try.prog srt92_ren := {
  mixed := by kernel_rfl
  f6 := ⟨Try.f92.name, by decide, Try.func92.trans (congrArg some (by kernel_rfl))⟩
  f8 := Try.func99.trans (congrArg some (by kernel_rfl))
  f9 := ⟨Try.f98.name, by decide, Try.func98.trans (congrArg some (by kernel_rfl))⟩
  f19 := Try.func109.trans (congrArg some (by kernel_rfl))
  f20 := Try.func110.trans (congrArg some (by kernel_rfl))
  f21 := ⟨Try.f100.name, by decide, Try.func100.trans (congrArg some (by kernel_rfl))⟩
  f22 := ⟨Try.f101.name, by decide, Try.func101.trans (congrArg some (by kernel_rfl))⟩
  f23 := ⟨Try.f102.name, by decide, Try.func102.trans (congrArg some (by kernel_rfl))⟩
  f24 := ⟨Try.f103.name, by decide, Try.func103.trans (congrArg some (by kernel_rfl))⟩
  f25 := ⟨Try.f104.name, by decide, Try.func104.trans (congrArg some (by kernel_rfl))⟩
  f26 := ⟨Try.f105.name, by decide, Try.func105.trans (congrArg some (by kernel_rfl))⟩
  f27 := ⟨Try.f106.name, by decide, Try.func106.trans (congrArg some (by kernel_rfl))⟩
  f28 := ⟨Try.f107.name, by decide, Try.func107.trans (congrArg some (by kernel_rfl))⟩
  f29 := ⟨Try.f108.name, by decide, Try.func108.trans (congrArg some (by kernel_rfl))⟩
  f31 := Try.func112.trans (congrArg some (by kernel_rfl))
  f32 := Try.func113.trans (congrArg some (by kernel_rfl))
  f36 := ⟨Try.f111.name, by decide, Try.func111.trans (congrArg some (by kernel_rfl))⟩
  f37 := ⟨Try.f114.name, by decide, Try.func114.trans (congrArg some (by kernel_rfl))⟩
  f38 := ⟨Try.f115.name, by decide, Try.func115.trans (congrArg some (by kernel_rfl))⟩
  f39 := ⟨Try.f116.name, by decide, Try.func116.trans (congrArg some (by kernel_rfl))⟩
  f41 := ⟨Try.f117.name, by decide, Try.func117.trans (congrArg some (by kernel_rfl))⟩
  t0 := Try.underlying0
  a0 := Try.isAgg0
  z0 := Try.sizeOf0
  v0 := Try.zeroValue0
  t3 := Try.underlying3
  a3 := Try.isAgg3
  z3 := Try.sizeOf3
  v3 := Try.zeroValue3
  t4 := Try.underlying4
  a4 := Try.isAgg4
  z4 := Try.sizeOf4
  v4 := Try.zeroValue4
  t5 := Try.underlying5
  a5 := Try.isAgg5
  z5 := Try.sizeOf5
  v5 := Try.zeroValue5
  t9 := Try.underlying9
  a9 := Try.isAgg9
  z9 := Try.sizeOf9
  v9 := Try.zeroValue9
  t26 := Try.underlying137
  a26 := Try.isAgg137
  z26 := Try.sizeOf137
  v26 := Try.zeroValue137
  t27 := Try.underlying137
  a27 := Try.isAgg137
  z27 := Try.sizeOf137
  v27 := Try.zeroValue137
  t29 := Try.underlying9
  a29 := Try.isAgg9
  z29 := Try.sizeOf9
  v29 := Try.zeroValue9
  t32 := Try.underlying150
  a32 := Try.isAgg150
  z32 := Try.sizeOf150
  v32 := Try.zeroValue150
  t35 := Try.underlying152
  a35 := Try.isAgg152
  z35 := Try.sizeOf152
  v35 := Try.zeroValue152
  t36 := Try.underlying153
  a36 := Try.isAgg153
  z36 := Try.sizeOf153
  v36 := Try.zeroValue153
  t41 := Try.underlying158
  a41 := Try.isAgg158
  z41 := Try.sizeOf158
  v41 := Try.zeroValue158
  t44 := Try.underlying161
  a44 := Try.isAgg161
  z44 := Try.sizeOf161
  v44 := Try.zeroValue161
  t46 := Try.underlying163
  a46 := Try.isAgg163
  z46 := Try.sizeOf163
  v46 := Try.zeroValue163
  t53 := Try.underlying164
  a53 := Try.isAgg164
  z53 := Try.sizeOf164
  v53 := Try.zeroValue164
  t57 := Try.underlying168
  a57 := Try.isAgg168
  z57 := Try.sizeOf168
  v57 := Try.zeroValue168
  t63 := Try.underlying170
  a63 := Try.isAgg170
  z63 := Try.sizeOf170
  v63 := Try.zeroValue170
  t64 := Try.underlying171
  a64 := Try.isAgg171
  z64 := Try.sizeOf171
  v64 := Try.zeroValue171 }
theorem sorts82 (m : Nat) : AnyZ.SortsIn Try.prog sorted82_ren Fence.wide m :=
  ⟨fun blk off cap ss W hH hblk hsz => callsIn_wide.2 (AnyM.slices_Sort_string srt92 blk off cap ss W hH hblk hsz), fun p cap W => callsIn_wide.2 (AnyM.slices_Sort_string_none srt92 p cap W)⟩
theorem sk82_83 {hk : Try.prog.underlying 9 = some .string} {β : Type} {V : Tv β} {Γ : Gh} {row : Rowb} {g t gb : Nat} {es : List (ByteArray × β)} {w : World} (hm : MapO (strK hk) V Γ row g es) (hn : es.length ≤ lim) (hp : Pre [[(gb, .cells #[.map (some g)] t)], row] Γ w) :
    Calls Try.prog 82 #[.func (.func 93) #[] #[.pointer (some ⟨gb, 0, none⟩)]] w (Outc Γ [[(gb, .cells #[.map (some g)] t)], row] w fun U Δ v => ∃ A c row', v = .slice A (skeys es).length c ∧ U = [[(gb, .cells #[.map (some g)] t)], row, row'] ∧ Own strT Δ 9 row' A c (skeys es)) :=
  sorted_keys (ρ := keys83_ren) (ρ' := sorted82_ren) { keys83 with } sorted82 rfl (sorts82 _) (enters_of Try.func92 (by kernel_rfl) rfl) (enters_of Try.func93 (by kernel_rfl) rfl) rfl hk hm hn hp
end Fw
end Go.Proofs.Ytlgahohnbkkoiaa
