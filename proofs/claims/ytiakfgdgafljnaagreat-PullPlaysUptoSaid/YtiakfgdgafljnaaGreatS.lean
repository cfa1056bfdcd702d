/- The shelf's contracts of library calls, at this program: which of its numbers are which of ours. No condition. -/
import Derived.Test.YtiakfgdgafljnaaGreatE
import Derived.Test.YtiakfgdgafljnaaGreatK15
import Derived.Shelf.SlIter.Nil
import Derived.Ground.GgzProg
import Derived.Ground.SlgmProg
import Derived.Shelf.SortM.Plain
import Derived.Shelf.SortM.SortNone
namespace Go.Proofs.YtiakfgdgafljnaaGreat
namespace Fw
open Go.Shelf Go.RowKit Go.Maps Go.Sort
def keys78_ren:Go.Shelf.Ren:=⟨fun | 7=>78 | 10=>94 | n=>n,fun | 23=>119 | 26=>9 | 3=>70 | 28=>133 | 0=>0 | 27=>132 | 33=>162 | 4=>4 | n=>n,fun | n=>n⟩
theorem keys78:Go.Proofs.SlLaysZ.n7 Tryz.prog keys78_ren:={
  mixed:=by kernel_rfl
  f7:=⟨Tryz.f78.name,by decide,Tryz.func78.trans (congrArg some (by kernel_rfl))⟩
  f10:=⟨Tryz.f94.name,by decide,Tryz.func94.trans (congrArg some (by kernel_rfl))⟩
  t0:=Tryz.underlying0
  a0:=Tryz.isAgg0
  z0:=Tryz.sizeOf0
  v0:=Tryz.zeroValue0
  t4:=Tryz.underlying4
  a4:=Tryz.isAgg4
  z4:=Tryz.sizeOf4
  v4:=Tryz.zeroValue4
  t23:=Tryz.underlying119
  a23:=Tryz.isAgg119
  z23:=Tryz.sizeOf119
  v23:=Tryz.zeroValue119
  t26:=Tryz.underlying9
  a26:=Tryz.isAgg9
  z26:=Tryz.sizeOf9
  v26:=Tryz.zeroValue9
  t27:=Tryz.underlying132
  a27:=Tryz.isAgg132
  z27:=Tryz.sizeOf132
  v27:=Tryz.zeroValue132
  t28:=Tryz.underlying133
  a28:=Tryz.isAgg133
  z28:=Tryz.sizeOf133
  v28:=Tryz.zeroValue133
  t33:=Tryz.underlying162
  a33:=Tryz.isAgg162
  z33:=Tryz.sizeOf162
  v33:=Tryz.zeroValue162 }
def sorted77_ren:Go.Shelf.Ren:=⟨fun | 6=>77 | 8=>92 | 9=>93 | 11=>108 | 13=>110 | 12=>109 | 23=>135 | 24=>136 | 14=>126 | 15=>127 | 16=>128 | 17=>129 | 18=>130 | 19=>131 | 20=>132 | 21=>133 | 22=>134 | 25=>144 | 26=>145 | 27=>146 | 28=>147 | 29=>148 | 30=>149 | 31=>158 | n=>n,fun | 26=>9 | 28=>133 | 24=>130 | 0=>0 | 3=>3 | 37=>109 | 48=>148 | 50=>78 | 4=>4 | 40=>187 | 39=>186 | 45=>192 | 5=>5 | 9=>9 | 51=>199 | 55=>203 | 57=>212 | 58=>213 | 33=>162 | n=>n,fun | n=>n⟩
theorem sorted77:Go.Proofs.SlLaysZ.n6 Tryz.prog sorted77_ren:={
  mixed:=by kernel_rfl
  f6:=⟨Tryz.f77.name,by decide,Tryz.func77.trans (congrArg some (by kernel_rfl))⟩
  f8:=⟨Tryz.f92.name,by decide,Tryz.func92.trans (congrArg some (by kernel_rfl))⟩
  f11:=⟨Tryz.f108.name,by decide,Tryz.func108.trans (congrArg some (by kernel_rfl))⟩
  t0:=Tryz.underlying0
  a0:=Tryz.isAgg0
  z0:=Tryz.sizeOf0
  v0:=Tryz.zeroValue0
  t24:=Tryz.underlying130
  a24:=Tryz.isAgg130
  z24:=Tryz.sizeOf130
  v24:=Tryz.zeroValue130
  t26:=Tryz.underlying9
  a26:=Tryz.isAgg9
  z26:=Tryz.sizeOf9
  v26:=Tryz.zeroValue9
  t28:=Tryz.underlying133
  a28:=Tryz.isAgg133
  z28:=Tryz.sizeOf133
  v28:=Tryz.zeroValue133
  i26:=by kernel_rfl }
def srt93_ren:Go.Shelf.Ren:=⟨fun | 6=>93 | 8=>110 | 9=>109 | 19=>135 | 20=>136 | 21=>126 | 22=>127 | 23=>128 | 24=>129 | 25=>130 | 26=>131 | 27=>132 | 28=>133 | 29=>134 | 36=>144 | 31=>145 | 32=>146 | 37=>147 | 38=>148 | 39=>149 | 41=>158 | n=>n,fun | 27=>130 | 29=>9 | 3=>3 | 32=>109 | 26=>130 | 0=>0 | 44=>148 | 46=>78 | 4=>4 | 36=>187 | 35=>186 | 41=>192 | 5=>5 | 9=>9 | 53=>199 | 57=>203 | 63=>212 | 64=>213 | n=>n,fun | n=>n⟩
theorem srt93:Go.Proofs.SlLaysM.n6 Tryz.prog srt93_ren:={
  mixed:=by kernel_rfl
  f6:=⟨Tryz.f93.name,by decide,Tryz.func93.trans (congrArg some (by kernel_rfl))⟩
  f8:=Tryz.func110.trans (congrArg some (by kernel_rfl))
  f9:=⟨Tryz.f109.name,by decide,Tryz.func109.trans (congrArg some (by kernel_rfl))⟩
  f19:=Tryz.func135.trans (congrArg some (by kernel_rfl))
  f20:=Tryz.func136.trans (congrArg some (by kernel_rfl))
  f21:=⟨Tryz.f126.name,by decide,Tryz.func126.trans (congrArg some (by kernel_rfl))⟩
  f22:=⟨Tryz.f127.name,by decide,Tryz.func127.trans (congrArg some (by kernel_rfl))⟩
  f23:=⟨Tryz.f128.name,by decide,Tryz.func128.trans (congrArg some (by kernel_rfl))⟩
  f24:=⟨Tryz.f129.name,by decide,Tryz.func129.trans (congrArg some (by kernel_rfl))⟩
  f25:=⟨Tryz.f130.name,by decide,Tryz.func130.trans (congrArg some (by kernel_rfl))⟩
  f26:=⟨Tryz.f131.name,by decide,Tryz.func131.trans (congrArg some (by kernel_rfl))⟩
  f27:=⟨Tryz.f132.name,by decide,Tryz.func132.trans (congrArg some (by kernel_rfl))⟩
  f28:=⟨Tryz.f133.name,by decide,Tryz.func133.trans (congrArg some (by kernel_rfl))⟩
  f29:=⟨Tryz.f134.name,by decide,Tryz.func134.trans (congrArg some (by kernel_rfl))⟩
  f31:=Tryz.func145.trans (congrArg some (by kernel_rfl))
  f32:=Tryz.func146.trans (congrArg some (by kernel_rfl))
  f36:=⟨Tryz.f144.name,by decide,Tryz.func144.trans (congrArg some (by kernel_rfl))⟩
  f37:=⟨Tryz.f147.name,by decide,Tryz.func147.trans (congrArg some (by kernel_rfl))⟩
  f38:=⟨Tryz.f148.name,by decide,Tryz.func148.trans (congrArg some (by kernel_rfl))⟩
  f39:=⟨Tryz.f149.name,by decide,Tryz.func149.trans (congrArg some (by kernel_rfl))⟩
  f41:=⟨Tryz.f158.name,by decide,Tryz.func158.trans (congrArg some (by kernel_rfl))⟩
  t0:=Tryz.underlying0
  a0:=Tryz.isAgg0
  z0:=Tryz.sizeOf0
  v0:=Tryz.zeroValue0
  t3:=Tryz.underlying3
  a3:=Tryz.isAgg3
  z3:=Tryz.sizeOf3
  v3:=Tryz.zeroValue3
  t4:=Tryz.underlying4
  a4:=Tryz.isAgg4
  z4:=Tryz.sizeOf4
  v4:=Tryz.zeroValue4
  t5:=Tryz.underlying5
  a5:=Tryz.isAgg5
  z5:=Tryz.sizeOf5
  v5:=Tryz.zeroValue5
  t9:=Tryz.underlying9
  a9:=Tryz.isAgg9
  z9:=Tryz.sizeOf9
  v9:=Tryz.zeroValue9
  t26:=Tryz.underlying130
  a26:=Tryz.isAgg130
  z26:=Tryz.sizeOf130
  v26:=Tryz.zeroValue130
  t27:=Tryz.underlying130
  a27:=Tryz.isAgg130
  z27:=Tryz.sizeOf130
  v27:=Tryz.zeroValue130
  t29:=Tryz.underlying9
  a29:=Tryz.isAgg9
  z29:=Tryz.sizeOf9
  v29:=Tryz.zeroValue9
  t32:=Tryz.underlying109
  a32:=Tryz.isAgg109
  z32:=Tryz.sizeOf109
  v32:=Tryz.zeroValue109
  t35:=Tryz.underlying186
  a35:=Tryz.isAgg186
  z35:=Tryz.sizeOf186
  v35:=Tryz.zeroValue186
  t36:=Tryz.underlying187
  a36:=Tryz.isAgg187
  z36:=Tryz.sizeOf187
  v36:=Tryz.zeroValue187
  t41:=Tryz.underlying192
  a41:=Tryz.isAgg192
  z41:=Tryz.sizeOf192
  v41:=Tryz.zeroValue192
  t44:=Tryz.underlying148
  a44:=Tryz.isAgg148
  z44:=Tryz.sizeOf148
  v44:=Tryz.zeroValue148
  t46:=Tryz.underlying78
  a46:=Tryz.isAgg78
  z46:=Tryz.sizeOf78
  v46:=Tryz.zeroValue78
  t53:=Tryz.underlying199
  a53:=Tryz.isAgg199
  z53:=Tryz.sizeOf199
  v53:=Tryz.zeroValue199
  t57:=Tryz.underlying203
  a57:=Tryz.isAgg203
  z57:=Tryz.sizeOf203
  v57:=Tryz.zeroValue203
  t63:=Tryz.underlying212
  a63:=Tryz.isAgg212
  z63:=Tryz.sizeOf212
  v63:=Tryz.zeroValue212
  t64:=Tryz.underlying213
  a64:=Tryz.isAgg213
  z64:=Tryz.sizeOf213
  v64:=Tryz.zeroValue213 }
theorem sorts77(m:Nat):AnyZ.SortsIn Tryz.prog sorted77_ren Fence.wide m:=
  ⟨λblk off cap ss W hH hblk hsz=>callsIn_wide.2 (AnyM.slices_Sort_string srt93 blk off cap ss W hH hblk hsz),λp cap W=>callsIn_wide.2 (AnyM.slices_Sort_string_none srt93 p cap W)⟩
theorem sk77_78{hk:Tryz.prog.underlying 9=some .string}{β:Type}{V:Tv β}{Γ:Gh}{row:Rowb}{g t gb:Nat}{es:List (ByteArray×β)}{w:World}(hm:MapO (strK hk) V Γ row g es)(hn:es.length≤lim)(hp:Pre [[(gb,.cells #[.map (some g)] t)],row] Γ w):
    Calls Tryz.prog 77 #[.func (.func 94) #[] #[.pointer (some ⟨gb,0,none⟩)]] w (Outc Γ [[(gb,.cells #[.map (some g)] t)],row] w λU Δ v => ∃A c row',v = .slice A (skeys es).length c∧U = [[(gb,.cells #[.map (some g)] t)],row,row']∧Own strT Δ 9 row' A c (skeys es)):=
  sorted_keys (ρ:=keys78_ren) (ρ':=sorted77_ren) { keys78 with } sorted77 rfl (sorts77 _) (enters_of Tryz.func93 (by kernel_rfl) rfl) (enters_of Tryz.func94 (by kernel_rfl) rfl) rfl hk hm hn hp
end Fw
end Go.Proofs.YtiakfgdgafljnaaGreat
