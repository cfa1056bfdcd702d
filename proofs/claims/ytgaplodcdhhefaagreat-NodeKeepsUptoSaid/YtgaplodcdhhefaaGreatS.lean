/- The shelf's contracts of library calls, at this program: which of its numbers are which of ours. No condition. -/
import Derived.Test.YtgaplodcdhhefaaGreatE
import Derived.Test.YtgaplodcdhhefaaGreatK15
import Derived.Shelf.SlMaps.Clone
import Derived.Ground.SlmcProg
import Derived.Shelf.SlIter.Nil
import Derived.Ground.GgzProg
import Derived.Ground.SlgmProg
import Derived.Shelf.SortM.Plain
import Derived.Shelf.SortM.SortNone
namespace Go.Proofs.YtgaplodcdhhefaaGreat
namespace Fw
open Go.Shelf Go.RowKit Go.Maps Go.Sort
def u5:Go.Shelf.Ren:=⟨fun | 5=>109 | 7=>149 | n=>n,fun | 23=>64 | 25=>9 | 3=>89 | 4=>4 | 20=>20 | n=>n,fun | n=>n⟩
theorem zk:Go.Proofs.SlLaysW.n5 Tryz.prog u5:={
  mixed:=by kernel_rfl
  f5:=⟨Tryz.f109.name,by decide,Tryz.func109.trans (congrArg some (by kernel_rfl))⟩
  f7:=Tryz.func149.trans (congrArg some (by kernel_rfl))
  t4:=Tryz.underlying4
  a4:=Tryz.isAgg4
  z4:=Tryz.sizeOf4
  v4:=Tryz.zeroValue4
  t20:=Tryz.underlying20
  a20:=Tryz.isAgg20
  z20:=Tryz.sizeOf20
  v20:=Tryz.zeroValue20
  t23:=Tryz.underlying64
  a23:=Tryz.isAgg64
  z23:=Tryz.sizeOf64
  v23:=Tryz.zeroValue64 }
def ly:Go.Shelf.Ren:=⟨fun | 7=>98 | 10=>138 | n=>n,fun | 23=>63 | 26=>9 | 3=>89 | 28=>158 | 0=>0 | 27=>157 | 33=>208 | 4=>4 | n=>n,fun | n=>n⟩
theorem vR:Go.Proofs.SlLaysZ.n7 Tryz.prog ly:={
  mixed:=by kernel_rfl
  f7:=⟨Tryz.f98.name,by decide,Tryz.func98.trans (congrArg some (by kernel_rfl))⟩
  f10:=⟨Tryz.f138.name,by decide,Tryz.func138.trans (congrArg some (by kernel_rfl))⟩
  t0:=Tryz.underlying0
  a0:=Tryz.isAgg0
  z0:=Tryz.sizeOf0
  v0:=Tryz.zeroValue0
  t4:=Tryz.underlying4
  a4:=Tryz.isAgg4
  z4:=Tryz.sizeOf4
  v4:=Tryz.zeroValue4
  t23:=Tryz.underlying63
  a23:=Tryz.isAgg63
  z23:=Tryz.sizeOf63
  v23:=Tryz.zeroValue63
  t26:=Tryz.underlying9
  a26:=Tryz.isAgg9
  z26:=Tryz.sizeOf9
  v26:=Tryz.zeroValue9
  t27:=Tryz.underlying157
  a27:=Tryz.isAgg157
  z27:=Tryz.sizeOf157
  v27:=Tryz.zeroValue157
  t28:=Tryz.underlying158
  a28:=Tryz.isAgg158
  z28:=Tryz.sizeOf158
  v28:=Tryz.zeroValue158
  t33:=Tryz.underlying208
  a33:=Tryz.isAgg208
  z33:=Tryz.sizeOf208
  v33:=Tryz.zeroValue208 }
def mI:Go.Shelf.Ren:=⟨fun | 7=>182 | 10=>207 | n=>n,fun | 23=>64 | 26=>9 | 3=>89 | 28=>158 | 0=>0 | 27=>157 | 33=>208 | 4=>4 | n=>n,fun | n=>n⟩
theorem wR:Go.Proofs.SlLaysZ.n7 Tryz.prog mI:={
  mixed:=by kernel_rfl
  f7:=⟨Tryz.f182.name,by decide,Tryz.func182.trans (congrArg some (by kernel_rfl))⟩
  f10:=⟨Tryz.f207.name,by decide,Tryz.func207.trans (congrArg some (by kernel_rfl))⟩
  t0:=Tryz.underlying0
  a0:=Tryz.isAgg0
  z0:=Tryz.sizeOf0
  v0:=Tryz.zeroValue0
  t4:=Tryz.underlying4
  a4:=Tryz.isAgg4
  z4:=Tryz.sizeOf4
  v4:=Tryz.zeroValue4
  t23:=Tryz.underlying64
  a23:=Tryz.isAgg64
  z23:=Tryz.sizeOf64
  v23:=Tryz.zeroValue64
  t26:=Tryz.underlying9
  a26:=Tryz.isAgg9
  z26:=Tryz.sizeOf9
  v26:=Tryz.zeroValue9
  t27:=Tryz.underlying157
  a27:=Tryz.isAgg157
  z27:=Tryz.sizeOf157
  v27:=Tryz.zeroValue157
  t28:=Tryz.underlying158
  a28:=Tryz.isAgg158
  z28:=Tryz.sizeOf158
  v28:=Tryz.zeroValue158
  t33:=Tryz.underlying208
  a33:=Tryz.isAgg208
  z33:=Tryz.sizeOf208
  v33:=Tryz.zeroValue208 }
def jQ:Go.Shelf.Ren:=⟨fun | 6=>92 | 8=>130 | 9=>131 | 11=>169 | 13=>171 | 12=>170 | 23=>203 | 24=>204 | 14=>194 | 15=>195 | 16=>196 | 17=>197 | 18=>198 | 19=>199 | 20=>200 | 21=>201 | 22=>202 | 25=>213 | 26=>214 | 27=>215 | 28=>216 | 29=>217 | 30=>218 | 31=>223 | n=>n,fun | 26=>9 | 28=>158 | 24=>116 | 0=>0 | 3=>3 | 37=>162 | 48=>235 | 50=>94 | 4=>4 | 40=>275 | 39=>274 | 45=>279 | 5=>5 | 9=>9 | 51=>289 | 55=>293 | 57=>298 | 58=>299 | 33=>208 | n=>n,fun | n=>n⟩
theorem vv:Go.Proofs.SlLaysZ.n6 Tryz.prog jQ:={
  mixed:=by kernel_rfl
  f6:=⟨Tryz.f92.name,by decide,Tryz.func92.trans (congrArg some (by kernel_rfl))⟩
  f8:=⟨Tryz.f130.name,by decide,Tryz.func130.trans (congrArg some (by kernel_rfl))⟩
  f11:=⟨Tryz.f169.name,by decide,Tryz.func169.trans (congrArg some (by kernel_rfl))⟩
  t0:=Tryz.underlying0
  a0:=Tryz.isAgg0
  z0:=Tryz.sizeOf0
  v0:=Tryz.zeroValue0
  t24:=Tryz.underlying116
  a24:=Tryz.isAgg116
  z24:=Tryz.sizeOf116
  v24:=Tryz.zeroValue116
  t26:=Tryz.underlying9
  a26:=Tryz.isAgg9
  z26:=Tryz.sizeOf9
  v26:=Tryz.zeroValue9
  t28:=Tryz.underlying158
  a28:=Tryz.isAgg158
  z28:=Tryz.sizeOf158
  v28:=Tryz.zeroValue158
  i26:=by kernel_rfl }
def wu:Go.Shelf.Ren:=⟨fun | 6=>131 | 8=>171 | 9=>170 | 19=>203 | 20=>204 | 21=>194 | 22=>195 | 23=>196 | 24=>197 | 25=>198 | 26=>199 | 27=>200 | 28=>201 | 29=>202 | 36=>213 | 31=>214 | 32=>215 | 37=>216 | 38=>217 | 39=>218 | 41=>223 | n=>n,fun | 27=>116 | 29=>9 | 3=>3 | 32=>162 | 26=>116 | 0=>0 | 44=>235 | 46=>94 | 4=>4 | 36=>275 | 35=>274 | 41=>279 | 5=>5 | 9=>9 | 53=>289 | 57=>293 | 63=>298 | 64=>299 | n=>n,fun | n=>n⟩
theorem zG:Go.Proofs.SlLaysM.n6 Tryz.prog wu:={
  mixed:=by kernel_rfl
  f6:=⟨Tryz.f131.name,by decide,Tryz.func131.trans (congrArg some (by kernel_rfl))⟩
  f8:=Tryz.func171.trans (congrArg some (by kernel_rfl))
  f9:=⟨Tryz.f170.name,by decide,Tryz.func170.trans (congrArg some (by kernel_rfl))⟩
  f19:=Tryz.func203.trans (congrArg some (by kernel_rfl))
  f20:=Tryz.func204.trans (congrArg some (by kernel_rfl))
  f21:=⟨Tryz.f194.name,by decide,Tryz.func194.trans (congrArg some (by kernel_rfl))⟩
  f22:=⟨Tryz.f195.name,by decide,Tryz.func195.trans (congrArg some (by kernel_rfl))⟩
  f23:=⟨Tryz.f196.name,by decide,Tryz.func196.trans (congrArg some (by kernel_rfl))⟩
  f24:=⟨Tryz.f197.name,by decide,Tryz.func197.trans (congrArg some (by kernel_rfl))⟩
  f25:=⟨Tryz.f198.name,by decide,Tryz.func198.trans (congrArg some (by kernel_rfl))⟩
  f26:=⟨Tryz.f199.name,by decide,Tryz.func199.trans (congrArg some (by kernel_rfl))⟩
  f27:=⟨Tryz.f200.name,by decide,Tryz.func200.trans (congrArg some (by kernel_rfl))⟩
  f28:=⟨Tryz.f201.name,by decide,Tryz.func201.trans (congrArg some (by kernel_rfl))⟩
  f29:=⟨Tryz.f202.name,by decide,Tryz.func202.trans (congrArg some (by kernel_rfl))⟩
  f31:=Tryz.func214.trans (congrArg some (by kernel_rfl))
  f32:=Tryz.func215.trans (congrArg some (by kernel_rfl))
  f36:=⟨Tryz.f213.name,by decide,Tryz.func213.trans (congrArg some (by kernel_rfl))⟩
  f37:=⟨Tryz.f216.name,by decide,Tryz.func216.trans (congrArg some (by kernel_rfl))⟩
  f38:=⟨Tryz.f217.name,by decide,Tryz.func217.trans (congrArg some (by kernel_rfl))⟩
  f39:=⟨Tryz.f218.name,by decide,Tryz.func218.trans (congrArg some (by kernel_rfl))⟩
  f41:=⟨Tryz.f223.name,by decide,Tryz.func223.trans (congrArg some (by kernel_rfl))⟩
  t0:=Tryz.underlying0
  a0:=Tryz.isAgg0
  z0:=Tryz.sizeOf0
  v0:=Tryz.zeroValue0
  t3:=Tryz.underlying3
  a3:=Tryz.isAgg3
  z3:=Tryz.sizeOf3
  v3:=Tryz.zeroValue3
  t4:=Tryz.underlying4
  a4:=Tryz.isAgg4
  z4:=Tryz.sizeOf4
  v4:=Tryz.zeroValue4
  t5:=Tryz.underlying5
  a5:=Tryz.isAgg5
  z5:=Tryz.sizeOf5
  v5:=Tryz.zeroValue5
  t9:=Tryz.underlying9
  a9:=Tryz.isAgg9
  z9:=Tryz.sizeOf9
  v9:=Tryz.zeroValue9
  t26:=Tryz.underlying116
  a26:=Tryz.isAgg116
  z26:=Tryz.sizeOf116
  v26:=Tryz.zeroValue116
  t27:=Tryz.underlying116
  a27:=Tryz.isAgg116
  z27:=Tryz.sizeOf116
  v27:=Tryz.zeroValue116
  t29:=Tryz.underlying9
  a29:=Tryz.isAgg9
  z29:=Tryz.sizeOf9
  v29:=Tryz.zeroValue9
  t32:=Tryz.underlying162
  a32:=Tryz.isAgg162
  z32:=Tryz.sizeOf162
  v32:=Tryz.zeroValue162
  t35:=Tryz.underlying274
  a35:=Tryz.isAgg274
  z35:=Tryz.sizeOf274
  v35:=Tryz.zeroValue274
  t36:=Tryz.underlying275
  a36:=Tryz.isAgg275
  z36:=Tryz.sizeOf275
  v36:=Tryz.zeroValue275
  t41:=Tryz.underlying279
  a41:=Tryz.isAgg279
  z41:=Tryz.sizeOf279
  v41:=Tryz.zeroValue279
  t44:=Tryz.underlying235
  a44:=Tryz.isAgg235
  z44:=Tryz.sizeOf235
  v44:=Tryz.zeroValue235
  t46:=Tryz.underlying94
  a46:=Tryz.isAgg94
  z46:=Tryz.sizeOf94
  v46:=Tryz.zeroValue94
  t53:=Tryz.underlying289
  a53:=Tryz.isAgg289
  z53:=Tryz.sizeOf289
  v53:=Tryz.zeroValue289
  t57:=Tryz.underlying293
  a57:=Tryz.isAgg293
  z57:=Tryz.sizeOf293
  v57:=Tryz.zeroValue293
  t63:=Tryz.underlying298
  a63:=Tryz.isAgg298
  z63:=Tryz.sizeOf298
  v63:=Tryz.zeroValue298
  t64:=Tryz.underlying299
  a64:=Tryz.isAgg299
  z64:=Tryz.sizeOf299
  v64:=Tryz.zeroValue299 }
theorem xz(m:Nat):AnyZ.SortsIn Tryz.prog jQ Fence.wide m:=
  ⟨λblk off cap ss W hH hblk hsz=>callsIn_wide.2 (AnyM.slices_Sort_string zG blk off cap ss W hH hblk hsz),λp cap W=>callsIn_wide.2 (AnyM.slices_Sort_string_none zG p cap W)⟩
theorem wN{hk:Tryz.prog.underlying 9=some .string}{β:Type}{V:Tv β}{Γ:Gh}{row:Rowb}{g t gb:Nat}{es:List (ByteArray×β)}{w:World}(hm:MapO (strK hk) V Γ row g es)(hn:es.length≤lim)(hp:Pre [[(gb,.cells #[.map (some g)] t)],row] Γ w):
    Calls Tryz.prog 92 #[.func (.func 138) #[] #[.pointer (some ⟨gb,0,none⟩)]] w (Outc Γ [[(gb,.cells #[.map (some g)] t)],row] w λU Δ v => ∃A c row',v = .slice A (dI es).length c∧U = [[(gb,.cells #[.map (some g)] t)],row,row']∧Own strT Δ 9 row' A c (dI es)):=
  qw (ρ:=ly) (ρ':=jQ) { vR with } vv rfl (xz _) (enters_of Tryz.func131 (by kernel_rfl) rfl) (enters_of Tryz.func138 (by kernel_rfl) rfl) rfl hk hm hn hp
theorem zb{hk:Tryz.prog.underlying 9=some .string}{β:Type}{V:Tv β}{Γ:Gh}{row:Rowb}{g t gb:Nat}{es:List (ByteArray×β)}{w:World}(hm:MapO (strK hk) V Γ row g es)(hn:es.length≤lim)(hp:Pre [[(gb,.cells #[.map (some g)] t)],row] Γ w):
    Calls Tryz.prog 92 #[.func (.func 207) #[] #[.pointer (some ⟨gb,0,none⟩)]] w (Outc Γ [[(gb,.cells #[.map (some g)] t)],row] w λU Δ v => ∃A c row',v = .slice A (dI es).length c∧U = [[(gb,.cells #[.map (some g)] t)],row,row']∧Own strT Δ 9 row' A c (dI es)):=
  qw (ρ:=mI) (ρ':=jQ) { wR with } vv rfl (xz _) (enters_of Tryz.func131 (by kernel_rfl) rfl) (enters_of Tryz.func207 (by kernel_rfl) rfl) rfl hk hm hn hp
end Fw
end Go.Proofs.YtgaplodcdhhefaaGreat
